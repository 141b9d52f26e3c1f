/-
  Layer 30 (sched): functions that only read. By an AI agent.
-/
import Derived.Test.YtmdmmikpmhopkaaProg
import Derived.Test.YtmdmmikpmhopkaaAxKit
import Derived.Test.YtmdmmikpmhopkaaAxInt
import Derived.Test.YtmdmmikpmhopkaaAxAuto
import Derived.Test.YtmdmmikpmhopkaaAlIns
set_option linter.unusedVariables false
set_option linter.unusedSimpArgs false
namespace Go.AL
open Go.Proofs
theorem mixed : Try.prog.follows .mixedOrders = true := by kernel_rfl
abbrev tSDs : List Ty := [.int .i64,.int .i64,.int .i64,.int .i64,.bool,.bool,.bool,.int .i64,.int .i64,.int .i64,.sl [.int .i64]]
abbrev SDs := Int × Int × Int × Int × Bool × Bool × Bool × Int × Int × Int × (List (Int))
abbrev zQ : SDs := (0,0,0,0,false,false,false,0,0,0,[])
abbrev tSSd : List Ty := [.int .i64,.int .i64,.sl [.int .i64,.int .i64,.int .i64,.int .i64,.bool,.bool,.bool,.int .i64,.int .i64,.int .i64,.sl [.int .i64]]]
abbrev SSd := Int × Int × (List (Int × Int × Int × Int × Bool × Bool × Bool × Int × Int × Int × (List (Int))))
instance decDs : DecidableEq SDs := @instDecidableEqProd Int _ _ (@instDecidableEqProd Int _ _ (@instDecidableEqProd Int _ _ (@instDecidableEqProd Int _ _ (@instDecidableEqProd Bool _ _ (@instDecidableEqProd Bool _ _ (@instDecidableEqProd Bool _ _ inferInstance))))))
abbrev ups (d : SDs) : List Int := d.2.2.2.2.2.2.2.2.2.2
abbrev zDs : SDs := zQ
def okD (s : SSd) : Bool := decide (s.2.2.length ≤ 1000) && s.2.2.all fun d => decide ((ups d).length ≤ 1000)
theorem okD_len {s : SSd} (h : okD s = true) : s.2.2.length ≤ 1000 := of_decide_eq_true (Bool.and_eq_true_iff.1 h).1
theorem okD_mem {s : SSd} (h : okD s = true) {d : SDs} (hd : d ∈ s.2.2) : (ups d).length ≤ 1000 := of_decide_eq_true (List.all_eq_true.1 (Bool.and_eq_true_iff.1 h).2 d hd)
theorem okD_mk {s : SSd} (h1 : s.2.2.length ≤ 1000) (h2 : ∀ d ∈ s.2.2,(ups d).length ≤ 1000) : okD s = true := by
 unfold okD
 rw [Bool.and_eq_true]
 exact ⟨decide_eq_true h1,List.all_eq_true.2 fun d hd => decide_eq_true (h2 d hd)⟩
theorem bneD {α : Type} [DecidableEq α] (a b : α) : (a != b) = !decide (a = b) := by
 by_cases h : a = b
 ·subst h; simp
 ·rw [decide_eq_false h]; simpa using h
theorem bif_nf {c x : Bool} : (bif !c then false else x) = (c && x) := by cases c <;> rfl
theorem bif_nt {c x : Bool} (h : c = true → x = true) : (bif !c then true else x) = true := by
 cases c
 ·rfl
 ·exact h rfl
theorem drop_get2 {α : Type} {l : List α} {k : Nat} {x : α} {r : List α} (z : α) (h : l.drop k = x :: r) : k < l.length ∧ l.getD k z = x ∧ l.drop (k + 1) = r := by
 have hk : k < l.length := by
  by_cases hk : k < l.length
  ·exact hk
  ·rw [List.drop_eq_nil_of_le (by omega)] at h; cases h
 rw [List.drop_eq_getElem_cons hk] at h
 obtain ⟨h1,h2⟩ := List.cons.inj h
 exact ⟨hk,by rw [List.getD_eq_getElem?_getD,List.getElem?_eq_getElem hk]; exact h1,h2⟩
theorem drop_getD {α : Type} {l : List α} {k : Nat} (z : α) (h : k < l.length) : l.drop k = l.getD k z :: l.drop (k + 1) := by
 rw [List.drop_eq_getElem_cons h,List.getD_eq_getElem?_getD,List.getElem?_eq_getElem h]; rfl
theorem dec_cons {α : Type} [DecidableEq α] (a b : α) (l r : List α) : decide (a :: l = b :: r) = (decide (a = b) && decide (l = r)) := by
 by_cases h1 : a = b
 ·by_cases h2 : l = r
  ·subst h1 h2; simp
  ·simp [h2]
 ·simp [h1]
noncomputable def C_irt : Cfg := ⟨Try.prog,[],pmT [],6,[],[],[],[]⟩
theorem es_irt : EsOk Try.prog [] [] [] := es_nil
def Lt_irt : Nat → LD := ldT []
noncomputable def M_irt (f : Nat) (a : SDs) : Option (Bool) := (runX (C_irt) Lt_irt (Kret Try.prog [.tmp 2] [.v (.bool)]) f [.code (bodyOf Try.f44)] (initX [.g tSDs] a) : Option (ResT [.v (.bool)]))
theorem M_irt_eq (f : Nat) (d : SDs) : M_irt (f + 1) d =
  some (d.2.1 == 0) := by kernel_rfl
noncomputable def F_irt : SDs → Bool
 | d => d.2.1 == 0
noncomputable def P_irt : SDs → Bool
 | d => true
theorem irt_auto : ∀ a : SDs,Rns (fun f => M_irt f a) (P_irt a) (F_irt a)
 | d => ev_step (fun f => M_irt_eq f _) ev_some
theorem irt_P : ∀ a,(fun _ => true) a = true → P_irt a = true := fun a _ => rfl
theorem irt_F : ∀ a,(fun _ => true) a = true → F_irt a = (fun d : SDs => d.2.1 == 0) a := fun a _ => rfl
theorem irt_run : ∀ a,(fun _ => true : SDs → Bool) a = true → ∃ f,M_irt f a = some ((fun d : SDs => d.2.1 == 0 : SDs → Bool) a) := fun a h => by have h1 := irt_auto a (irt_P a h); rw [irt_F a h] at h1; exact h1
noncomputable def E_irt : Ent := ⟨44,[.g tSDs],[.v (.bool)],fun a => (fun _ => true : SDs → Bool) a,fun a => (fun d : SDs => d.2.1 == 0 : SDs → Bool) a⟩
theorem E_irt_ok : E_irt.Ok Try.prog := fun a hp vs hv => (irt_run a hp).elim fun f h => fnX_ok (C := C_irt) (Lt := Lt_irt) (fn := Try.f44) (rs := [.tmp 2]) [.g tSDs] [.v (.bool)] mixed es_irt Try.func44 rfl rfl rfl (by kernel_rfl) (by kernel_rfl) f h vs hv
def perB (n : Int) : Bool := decide (n ≥ 1) && (decide (n ≤ 1024) && (IntKind.i64.wrap (↑(BitVec.ofInt IntKind.i64.bits n &&& BitVec.ofInt IntKind.i64.bits (IntKind.i64.wrap (n - 1))).toNat : Int) == 0))
noncomputable def C_ipd : Cfg := ⟨Try.prog,[],pmT [],16,[],[],[],[]⟩
theorem es_ipd : EsOk Try.prog [] [] [] := es_nil
def Lt_ipd : Nat → LD := ldT []
noncomputable def M_ipd (f : Nat) (a : Int) : Option (Bool) := (runX (C_ipd) Lt_ipd (Kret Try.prog [.tmp 2] [.v (.bool)]) f [.code (bodyOf Try.f35)] (initX [.c (.int .i64)] a) : Option (ResT [.v (.bool)]))
theorem M_ipd_eq (f : Nat) (n : Int) : M_ipd (f + 1) n =
  bif decide (n ≥ 1) then bif decide (n ≤ 1024) then some (IntKind.i64.wrap (↑(BitVec.ofInt IntKind.i64.bits n &&& BitVec.ofInt IntKind.i64.bits (IntKind.i64.wrap (n - 1))).toNat : Int) == 0) else some false else some false := by kernel_rfl
noncomputable def F_ipd : Int → Bool
 | n => bif decide (n ≥ 1) then bif decide (n ≤ 1024) then IntKind.i64.wrap (↑(BitVec.ofInt IntKind.i64.bits n &&& BitVec.ofInt IntKind.i64.bits (IntKind.i64.wrap (n - 1))).toNat : Int) == 0 else false else false
noncomputable def P_ipd : Int → Bool
 | n => true
theorem ipd_auto : ∀ a : Int,Rns (fun f => M_ipd f a) (P_ipd a) (F_ipd a)
 | n => ev_step (fun f => M_ipd_eq f _) (ev_bift (ev_bift ev_some ev_some) ev_some)
theorem ipd_P : ∀ a,(fun _ => true) a = true → P_ipd a = true := fun a _ => rfl
theorem ipd_F : ∀ a,(fun _ => true) a = true → F_ipd a = perB a := fun a _ => by
 simp only [F_ipd,perB]
 cases decide (a ≥ 1) <;> cases decide (a ≤ 1024) <;> rfl
theorem ipd_run : ∀ a,(fun _ => true : Int → Bool) a = true → ∃ f,M_ipd f a = some ((perB : Int → Bool) a) := fun a h => by have h1 := ipd_auto a (ipd_P a h); rw [ipd_F a h] at h1; exact h1
noncomputable def E_ipd : Ent := ⟨35,[.c (.int .i64)],[.v (.bool)],fun a => (fun _ => true : Int → Bool) a,fun a => (perB : Int → Bool) a⟩
theorem E_ipd_ok : E_ipd.Ok Try.prog := fun a hp vs hv => (ipd_run a hp).elim fun f h => fnX_ok (C := C_ipd) (Lt := Lt_ipd) (fn := Try.f35) (rs := [.tmp 2]) [.c (.int .i64)] [.v (.bool)] mixed es_ipd Try.func35 rfl rfl rfl (by kernel_rfl) (by kernel_rfl) f h vs hv
noncomputable def C_shr : Cfg := ⟨Try.prog,[],pmT [],9,[],[],[],[]⟩
theorem es_shr : EsOk Try.prog [] [] [] := es_nil
def Lt_shr : Nat → LD := ldT []
noncomputable def M_shr (f : Nat) (a : Int × Int) : Option (Int) := (runX (C_shr) Lt_shr (Kret Try.prog [.tmp 4] [.v (.int .i64)]) f [.code (bodyOf Try.f61)] (initX [.c (.int .i64),.c (.int .i64)] a) : Option (ResT [.v (.int .i64)]))
theorem M_shr_eq (f : Nat) (period : Int) (budget : Int) : M_shr (f + 1) (period,budget) =
  bif period != 0 then some (IntKind.i64.wrap (budget * IntKind.i64.wrap (Int.tdiv 1024 period))) else none := by kernel_rfl
noncomputable def F_shr : (Int × Int) → Int
 | (period,budget) => IntKind.i64.wrap (budget * IntKind.i64.wrap (Int.tdiv 1024 period))
noncomputable def P_shr : (Int × Int) → Bool
 | (period,budget) => period != 0
theorem shr_auto : ∀ a : Int × Int,Rns (fun f => M_shr f a) (P_shr a) (F_shr a)
 | (period,budget) => ev_step (fun f => M_shr_eq f _ _) (ev_chk1 ev_some)
theorem shr_P : ∀ a : Int × Int,(fun a : Int × Int => a.1 != 0) a = true → P_shr a = true := fun a h => h
theorem shr_F : ∀ a : Int × Int,(fun a : Int × Int => a.1 != 0) a = true → F_shr a = (fun a : Int × Int => IntKind.i64.wrap (a.2 * IntKind.i64.wrap (Int.tdiv 1024 a.1))) a := fun a h => rfl
theorem shr_run : ∀ a,(fun a : Int × Int => a.1 != 0 : Int × Int → Bool) a = true → ∃ f,M_shr f a = some ((fun a : Int × Int => IntKind.i64.wrap (a.2 * IntKind.i64.wrap (Int.tdiv 1024 a.1)) : Int × Int → Int) a) := fun a h => by have h1 := shr_auto a (shr_P a h); rw [shr_F a h] at h1; exact h1
noncomputable def E_shr : Ent := ⟨61,[.c (.int .i64),.c (.int .i64)],[.v (.int .i64)],fun a => (fun a : Int × Int => a.1 != 0 : Int × Int → Bool) a,fun a => (fun a : Int × Int => IntKind.i64.wrap (a.2 * IntKind.i64.wrap (Int.tdiv 1024 a.1)) : Int × Int → Int) a⟩
theorem E_shr_ok : E_shr.Ok Try.prog := fun a hp vs hv => (shr_run a hp).elim fun f h => fnX_ok (C := C_shr) (Lt := Lt_shr) (fn := Try.f61) (rs := [.tmp 4]) [.c (.int .i64),.c (.int .i64)] [.v (.int .i64)] mixed es_shr Try.func61 rfl rfl rfl (by kernel_rfl) (by kernel_rfl) f h vs hv
noncomputable def C_prm : Cfg := ⟨Try.prog,[],pmT [],45,[],[],[],[]⟩
theorem es_prm : EsOk Try.prog [] [] [] := es_nil
def Lt_prm : Nat → LD := ldT []
noncomputable def M_prm (f : Nat) (a : Int × Int × Int) : Option (Bool) := (runX (C_prm) Lt_prm (Kret Try.prog [.tmp 6] [.v (.bool)]) f [.code (bodyOf Try.f48)] (initX [.c (.int .i64),.c (.int .i64),.c (.int .i64)] a) : Option (ResT [.v (.bool)]))
theorem M_prm_eq (f : Nat) (weight : Int) (period : Int) (budget : Int) : M_prm (f + 1) (weight,period,budget) =
  bif weight != 0 then bif decide (weight ≥ 1) then bif decide (weight ≤ 10) then bif period == 0 then some (budget == 0) else some false else some false else some false else bif decide (period ≥ 1) then bif decide (period ≤ 1024) then bif IntKind.i64.wrap (↑(BitVec.ofInt IntKind.i64.bits period &&& BitVec.ofInt IntKind.i64.bits (IntKind.i64.wrap (period - 1))).toNat : Int) == 0 then bif decide (budget ≥ 1) then some (decide (budget ≤ period)) else some false else some false else some false else some false := by kernel_rfl
noncomputable def F_prm : (Int × Int × Int) → Bool
 | (weight,period,budget) => bif weight != 0 then bif decide (weight ≥ 1) then bif decide (weight ≤ 10) then bif period == 0 then budget == 0 else false else false else false else bif decide (period ≥ 1) then bif decide (period ≤ 1024) then bif IntKind.i64.wrap (↑(BitVec.ofInt IntKind.i64.bits period &&& BitVec.ofInt IntKind.i64.bits (IntKind.i64.wrap (period - 1))).toNat : Int) == 0 then bif decide (budget ≥ 1) then decide (budget ≤ period) else false else false else false else false
noncomputable def P_prm : (Int × Int × Int) → Bool
 | (weight,period,budget) => true
theorem prm_auto : ∀ a : Int × Int × Int,Rns (fun f => M_prm f a) (P_prm a) (F_prm a)
 | (weight,period,budget) => ev_step (fun f => M_prm_eq f _ _ _) (ev_bift (ev_bift (ev_bift (ev_bift ev_some ev_some) ev_some) ev_some) (ev_bift (ev_bift (ev_bift (ev_bift ev_some ev_some) ev_some) ev_some) ev_some))
def prmB (a : Int × Int × Int) : Bool := bif !decide (a.1 = 0) then decide (a.1 ≥ 1) && (decide (a.1 ≤ 10) && (decide (a.2.1 = 0) && decide (a.2.2 = 0))) else perB a.2.1 && (decide (a.2.2 ≥ 1) && decide (a.2.2 ≤ a.2.1))
theorem beqD {α : Type} [DecidableEq α] (a b : α) : (a == b) = decide (a = b) := by
 by_cases h : a = b
 ·subst h; simp
 ·rw [decide_eq_false h]; simpa using h
theorem prm_P : ∀ a,(fun _ => true) a = true → P_prm a = true := fun a _ => rfl
theorem prm_F : ∀ a,(fun _ => true) a = true → F_prm a = prmB a := by
 rintro ⟨w,p,b⟩ _
 simp only [F_prm,prmB,perB,bneD,beqD]
 cases decide (w = 0) <;> cases decide (w ≥ 1) <;> cases decide (w ≤ 10) <;> cases decide (p = 0) <;> cases decide (p ≥ 1) <;> cases decide (p ≤ 1024) <;> simp only [Bool.not_true,Bool.not_false,cond_true,cond_false,Bool.true_and,Bool.false_and,Bool.and_true,Bool.and_false] <;>
  (cases decide (IntKind.i64.wrap (↑(BitVec.ofInt IntKind.i64.bits p &&& BitVec.ofInt IntKind.i64.bits (IntKind.i64.wrap (p - 1))).toNat : Int) = 0) <;> cases decide (b ≥ 1) <;> rfl)
theorem prm_run : ∀ a,(fun _ => true : Int × Int × Int → Bool) a = true → ∃ f,M_prm f a = some ((prmB : Int × Int × Int → Bool) a) := fun a h => by have h1 := prm_auto a (prm_P a h); rw [prm_F a h] at h1; exact h1
noncomputable def E_prm : Ent := ⟨48,[.c (.int .i64),.c (.int .i64),.c (.int .i64)],[.v (.bool)],fun a => (fun _ => true : Int × Int × Int → Bool) a,fun a => (prmB : Int × Int × Int → Bool) a⟩
theorem E_prm_ok : E_prm.Ok Try.prog := fun a hp vs hv => (prm_run a hp).elim fun f h => fnX_ok (C := C_prm) (Lt := Lt_prm) (fn := Try.f48) (rs := [.tmp 6]) [.c (.int .i64),.c (.int .i64),.c (.int .i64)] [.v (.bool)] mixed es_prm Try.func48 rfl rfl rfl (by kernel_rfl) (by kernel_rfl) f h vs hv
noncomputable def C_rat : Cfg := ⟨Try.prog,[],pmT [],22,[],[],[],[]⟩
theorem es_rat : EsOk Try.prog [] [] [] := es_nil
def Lt_rat : Nat → LD := ldT [(0,⟨[.c 1 (.int .i64),.box 2 2 26 3 tSSd,.c 5 (.int .i64)],[],0⟩)]
noncomputable def M_rat (f : Nat) (a : SSd × Int) : Option (Int) := (runX (C_rat) Lt_rat (Kret Try.prog [.tmp 4] [.v (.int .i64)]) f [.code (bodyOf Try.f34)] (initX [.g tSSd,.c (.int .i64)] a) : Option (ResT [.v (.int .i64)]))
noncomputable def L_rat_0 (f : Nat) (x : Int × SSd × Int) : Option (Int) := (runX (C_rat) Lt_rat (Kret Try.prog [.tmp 4] [.v (.int .i64)]) f (headOf Try.f34 0) ((Lt_rat 0).mk' x) : Option (ResT [.v (.int .i64)]))
theorem M_rat_eq (f : Nat) (s : SSd) (id : Int) : M_rat (f + 1) (s,id) =
  L_rat_0 f (id,s,0) := by kernel_rfl
theorem L_rat_0_eq (f : Nat) (id : Int) (s : SSd) (i : Int) : L_rat_0 (f + 1) (id,s,i) =
  bif decide (i < (↑(List.length s.2.2) : Int)) then bif decide (0 ≤ i) && decide (i < (↑(List.length s.2.2) : Int)) then bif (List.getD s.2.2 i.toNat zQ).1 == id then some i else L_rat_0 f (id,s,IntKind.i64.wrap (i + 1)) else none else some (-1) := by kernel_rfl
noncomputable def F_rat_0 : List (Int × Int × Int × Int × Bool × Bool × Bool × Int × Int × Int × (List (Int))) → (Int × SSd × Nat) → Int
 | [],(id,s,i) => -1
 | uu :: rest,(id,s,i) => bif uu.1 == id then (↑i : Int) else F_rat_0 rest (id,s,i + 1)
noncomputable def P_rat_0 : List (Int × Int × Int × Int × Bool × Bool × Bool × Int × Int × Int × (List (Int))) → (Int × SSd × Nat) → Bool
 | [],(id,s,i) => true
 | uu :: rest,(id,s,i) => bif uu.1 == id then true else P_rat_0 rest (id,s,i + 1)
theorem A_rat_0 : ∀ (rest : List (Int × Int × Int × Int × Bool × Bool × Bool × Int × Int × Int × (List (Int)))) (id : Int) (s : SSd) (i : Nat) (hd : s.snd.snd.drop i = rest) (hl : s.snd.snd.length ≤ 1099511627776),Rns (fun f => L_rat_0 f (id,s,((i : Nat) : Int))) (P_rat_0 rest (id,s,i)) (F_rat_0 rest (id,s,i))
 | [],id,s,i,hd,hl => ev_step (T := fun f => some (-1)) (fun f => (L_rat_0_eq f _ _ _).trans (by simp only [ge_dec (drop_ge hd),ge0,Bool.and_self,Bool.true_and,cond_true,cond_false,List.length_set] <;> rfl)) ev_some
 | uu :: rest,id,s,i,hd,hl => ev_step (T := fun f => bif uu.1 == id then some (↑i : Int) else L_rat_0 f (id,s,(↑(i + 1) : Int))) (fun f => (L_rat_0_eq f _ _ _).trans (by simp only [lt_dec (drop_lt hd),drop_get hd,wrap_succ (drop_lt hd) hl,getD_set (drop_lt hd),ge0,Bool.and_self,Bool.true_and,cond_true,cond_false,List.length_set] <;> rfl)) (ev_bif ev_some (A_rat_0 rest _ _ _ (by first | exact drop_succ hd | exact drop_set hd | exact drop_setS (drop_set hd)) (by first | exact hl | simpa using hl)))
noncomputable def F_rat : (SSd × Int) → Int
 | (s,id) => F_rat_0 s.2.2 (id,s,0)
noncomputable def P_rat : (SSd × Int) → Bool
 | (s,id) => decide (s.2.2.length ≤ 1099511627776) && P_rat_0 s.2.2 (id,s,0)
theorem rat_auto : ∀ a : SSd × Int,Rns (fun f => M_rat f a) (P_rat a) (F_rat a)
 | (s,id) => ev_step (fun f => M_rat_eq f _ _) (ev_and fun hh => A_rat_0 _ _ _ _ rfl (of_decide_eq_true hh))
def atL (id : Int) : List SDs → Nat → Int
 | [],_ => -1
 | d :: r,k => bif d.1 == id then ((k : Nat) : Int) else atL id r (k + 1)
def atS (a : SSd × Int) : Int := atL a.2 a.1.2.2 0
theorem rat_0 (id : Int) (s : SSd) : ∀ (r : List SDs) (k : Nat),F_rat_0 r (id,s,k) = atL id r k ∧ P_rat_0 r (id,s,k) = true
 | [],k => ⟨rfl,rfl⟩
 | d :: r,k => by
  obtain ⟨i1,i2⟩ := rat_0 id s r (k + 1)
  simp only [F_rat_0,P_rat_0,atL,i1,i2]
  cases d.1 == id <;> simp
theorem rat_P : ∀ a : SSd × Int,(fun a : SSd × Int => okD a.1) a = true → P_rat a = true := by
 rintro ⟨s,id⟩ h
 have hl := okD_len (show okD s = true from h)
 simp only [P_rat,(rat_0 id s _ 0).2,Bool.and_true]
 exact decide_eq_true (by omega)
theorem rat_F : ∀ a : SSd × Int,(fun a : SSd × Int => okD a.1) a = true → F_rat a = atS a := by
 rintro ⟨s,id⟩ h
 exact (rat_0 id s _ 0).1
theorem rat_run : ∀ a,(fun a : SSd × Int => okD a.1 : SSd × Int → Bool) a = true → ∃ f,M_rat f a = some ((atS : SSd × Int → Int) a) := fun a h => by have h1 := rat_auto a (rat_P a h); rw [rat_F a h] at h1; exact h1
noncomputable def E_rat : Ent := ⟨34,[.g tSSd,.c (.int .i64)],[.v (.int .i64)],fun a => (fun a : SSd × Int => okD a.1 : SSd × Int → Bool) a,fun a => (atS : SSd × Int → Int) a⟩
theorem E_rat_ok : E_rat.Ok Try.prog := fun a hp vs hv => (rat_run a hp).elim fun f h => fnX_ok (C := C_rat) (Lt := Lt_rat) (fn := Try.f34) (rs := [.tmp 4]) [.g tSSd,.c (.int .i64)] [.v (.int .i64)] mixed es_rat Try.func34 rfl rfl rfl (by kernel_rfl) (by kernel_rfl) f h vs hv
noncomputable def C_few : Cfg := ⟨Try.prog,[],pmT [],23,[],[],[],[]⟩
theorem es_few : EsOk Try.prog [] [] [] := es_nil
def Lt_few : Nat → LD := ldT [(0,⟨[.box 1 1 26 3 tSSd,.c 3 (.int .i64)],[],0⟩)]
noncomputable def M_few (f : Nat) (a : SSd) : Option (Bool) := (runX (C_few) Lt_few (Kret Try.prog [.tmp 2] [.v (.bool)]) f [.code (bodyOf Try.f16)] (initX [.g tSSd] a) : Option (ResT [.v (.bool)]))
noncomputable def L_few_0 (f : Nat) (x : SSd × Int) : Option (Bool) := (runX (C_few) Lt_few (Kret Try.prog [.tmp 2] [.v (.bool)]) f (headOf Try.f16 0) ((Lt_few 0).mk' x) : Option (ResT [.v (.bool)]))
theorem M_few_eq (f : Nat) (s : SSd) : M_few (f + 1) s =
  bif decide ((↑(List.length s.2.2) : Int) > 40) then some false else L_few_0 f (s,0) := by kernel_rfl
theorem L_few_0_eq (f : Nat) (s : SSd) (i : Int) : L_few_0 (f + 1) (s,i) =
  bif decide (i < (↑(List.length s.2.2) : Int)) then bif decide (0 ≤ i) && decide (i < (↑(List.length s.2.2) : Int)) then bif decide ((↑(List.length (List.getD s.2.2 i.toNat zQ).2.2.2.2.2.2.2.2.2.2) : Int) > 20) then some false else L_few_0 f (s,IntKind.i64.wrap (i + 1)) else none else some true := by kernel_rfl
noncomputable def F_few_0 : List (Int × Int × Int × Int × Bool × Bool × Bool × Int × Int × Int × (List (Int))) → (SSd × Nat) → Bool
 | [],(s,i) => true
 | uu :: rest,(s,i) => bif decide ((↑(List.length uu.2.2.2.2.2.2.2.2.2.2) : Int) > 20) then false else F_few_0 rest (s,i + 1)
noncomputable def P_few_0 : List (Int × Int × Int × Int × Bool × Bool × Bool × Int × Int × Int × (List (Int))) → (SSd × Nat) → Bool
 | [],(s,i) => true
 | uu :: rest,(s,i) => bif decide ((↑(List.length uu.2.2.2.2.2.2.2.2.2.2) : Int) > 20) then true else P_few_0 rest (s,i + 1)
theorem A_few_0 : ∀ (rest : List (Int × Int × Int × Int × Bool × Bool × Bool × Int × Int × Int × (List (Int)))) (s : SSd) (i : Nat) (hd : s.snd.snd.drop i = rest) (hl : s.snd.snd.length ≤ 1099511627776),Rns (fun f => L_few_0 f (s,((i : Nat) : Int))) (P_few_0 rest (s,i)) (F_few_0 rest (s,i))
 | [],s,i,hd,hl => ev_step (T := fun f => some true) (fun f => (L_few_0_eq f _ _).trans (by simp only [ge_dec (drop_ge hd),ge0,Bool.and_self,Bool.true_and,cond_true,cond_false,List.length_set] <;> rfl)) ev_some
 | uu :: rest,s,i,hd,hl => ev_step (T := fun f => bif decide ((↑(List.length uu.2.2.2.2.2.2.2.2.2.2) : Int) > 20) then some false else L_few_0 f (s,(↑(i + 1) : Int))) (fun f => (L_few_0_eq f _ _).trans (by simp only [lt_dec (drop_lt hd),drop_get hd,wrap_succ (drop_lt hd) hl,getD_set (drop_lt hd),ge0,Bool.and_self,Bool.true_and,cond_true,cond_false,List.length_set] <;> rfl)) (ev_bif ev_some (A_few_0 rest _ _ (by first | exact drop_succ hd | exact drop_set hd | exact drop_setS (drop_set hd)) (by first | exact hl | simpa using hl)))
noncomputable def F_few : SSd → Bool
 | s => bif decide ((↑(List.length s.2.2) : Int) > 40) then false else F_few_0 s.2.2 (s,0)
noncomputable def P_few : SSd → Bool
 | s => bif decide ((↑(List.length s.2.2) : Int) > 40) then true else decide (s.2.2.length ≤ 1099511627776) && P_few_0 s.2.2 (s,0)
theorem few_auto : ∀ a : SSd,Rns (fun f => M_few f a) (P_few a) (F_few a)
 | s => ev_step (fun f => M_few_eq f _) (ev_bif ev_some (ev_and fun hh => A_few_0 _ _ _ rfl (of_decide_eq_true hh)))
theorem few_0 (s : SSd) : ∀ (r : List SDs) (k : Nat),P_few_0 r (s,k) = true ∧ (F_few_0 r (s,k) = true → ∀ d ∈ r,(ups d).length ≤ 20)
 | [],k => ⟨rfl,fun _ => by simp⟩
 | d :: r,k => by
  obtain ⟨i1,i2⟩ := few_0 s r (k + 1)
  simp only [P_few_0,F_few_0]
  by_cases h : ((List.length (ups d) : Nat) : Int) > 20
  ·rw [decide_eq_true h]; exact ⟨rfl,fun h => by cases h⟩
  ·rw [decide_eq_false h]
   refine ⟨i1,fun hf e he => ?_⟩
   rcases List.mem_cons.1 he with rfl | he
   ·omega
   ·exact i2 hf e he
theorem few_P : ∀ a,(fun _ => true) a = true → P_few a = true := fun s _ => by
 simp only [P_few,(few_0 s _ 0).1,Bool.and_true]
 by_cases h : ((List.length s.2.2 : Nat) : Int) > 40
 ·rw [decide_eq_true h]; rfl
 ·rw [decide_eq_false h]; exact decide_eq_true (by omega)
theorem few_F : ∀ a,(fun _ => true) a = true → F_few a = F_few a := fun s _ => rfl
theorem few_run : ∀ a,(fun _ => true : SSd → Bool) a = true → ∃ f,M_few f a = some ((F_few : SSd → Bool) a) := fun a h => by have h1 := few_auto a (few_P a h); rw [few_F a h] at h1; exact h1
noncomputable def E_few : Ent := ⟨16,[.g tSSd],[.v (.bool)],fun a => (fun _ => true : SSd → Bool) a,fun a => (F_few : SSd → Bool) a⟩
theorem E_few_ok : E_few.Ok Try.prog := fun a hp vs hv => (few_run a hp).elim fun f h => fnX_ok (C := C_few) (Lt := Lt_few) (fn := Try.f16) (rs := [.tmp 2]) [.g tSSd] [.v (.bool)] mixed es_few Try.func16 rfl rfl rfl (by kernel_rfl) (by kernel_rfl) f h vs hv
theorem few_ok {s : SSd} (h : F_few s = true) : s.2.2.length ≤ 40 ∧ ∀ d ∈ s.2.2,(ups d).length ≤ 20 := by
 simp only [F_few] at h
 by_cases h1 : ((List.length s.2.2 : Nat) : Int) > 40
 ·rw [decide_eq_true h1] at h; cases h
 ·rw [decide_eq_false h1] at h
  exact ⟨by omega,(few_0 s _ 0).2 h⟩
noncomputable def C_new : Cfg := ⟨Try.prog,[],pmT [],2,[],[],[],[]⟩
theorem es_new : EsOk Try.prog [] [] [] := es_nil
def Lt_new : Nat → LD := ldT []
noncomputable def M_new (f : Nat) (a : Unit) : Option (SSd) := (runX (C_new) Lt_new (Kret Try.prog [.cell 0 26] [.g tSSd]) f [.code (bodyOf Try.f11)] (initX [] a) : Option (ResT [.g tSSd]))
theorem M_new_eq (f : Nat)  : M_new (f + 1) () =
  some (0,0,[]) := by kernel_rfl
noncomputable def F_new : Unit → SSd
 | () => (0,0,[])
noncomputable def P_new : Unit → Bool
 | () => true
theorem new_auto : ∀ a : Unit,Rns (fun f => M_new f a) (P_new a) (F_new a)
 | () => ev_step (fun f => M_new_eq f ) ev_some
theorem new_P : ∀ a,(fun _ => true) a = true → P_new a = true := fun a _ => rfl
theorem new_F : ∀ a,(fun _ => true) a = true → F_new a = (fun _ => ((0,0,[]) : SSd)) a := fun a _ => rfl
theorem new_run : ∀ a,(fun _ => true : Unit → Bool) a = true → ∃ f,M_new f a = some ((fun _ => ((0,0,[]) : SSd) : Unit → SSd) a) := fun a h => by have h1 := new_auto a (new_P a h); rw [new_F a h] at h1; exact h1
noncomputable def E_new : Ent := ⟨11,[],[.g tSSd],fun a => (fun _ => true : Unit → Bool) a,fun a => (fun _ => ((0,0,[]) : SSd) : Unit → SSd) a⟩
theorem E_new_ok : E_new.Ok Try.prog := fun a hp vs hv => (new_run a hp).elim fun f h => fnX_ok (C := C_new) (Lt := Lt_new) (fn := Try.f11) (rs := [.cell 0 26]) [] [.g tSSd] mixed es_new Try.func11 rfl rfl rfl (by kernel_rfl) (by kernel_rfl) f h vs hv
noncomputable def C_sam : Cfg := ⟨Try.prog,[],pmT [(6,([(0,[]),(1,[]),(2,[]),(3,[]),(4,[]),(7,[]),(10,[]),(5,[12]),(6,[12]),(8,[12]),(9,[12]),(11,[]),(12,[]),(13,[])],[(6,7),(37,46)])),(12,([(0,[]),(1,[]),(2,[]),(3,[]),(4,[]),(5,[]),(6,[]),(7,[]),(8,[]),(9,[]),(10,[])],[(131,141)]))],142,[],[],[],[]⟩
theorem es_sam : EsOk Try.prog [] [] [] := es_nil
def Lt_sam : Nat → LD := ldT [(0,⟨[.box 2 2 26 3 tSSd,.box 3 3 26 3 tSSd,.c 5 (.int .i64)],[],0⟩),(2,⟨[.box 2 2 26 3 tSSd,.box 3 3 26 3 tSSd,.c 5 (.int .i64),.box 6 6 53 11 tSDs,.box 7 7 53 11 tSDs,.c 8 (.int .i64)],[],0⟩)]
noncomputable def M_sam (f : Nat) (a : SSd × SSd) : Option (Bool) := (runX (C_sam) Lt_sam (Kret Try.prog [.tmp 4] [.v (.bool)]) f [.code (bodyOf Try.f19)] (initX [.g tSSd,.g tSSd] a) : Option (ResT [.v (.bool)]))
noncomputable def L_sam_0 (f : Nat) (x : SSd × SSd × Int) : Option (Bool) := (runX (C_sam) Lt_sam (Kret Try.prog [.tmp 4] [.v (.bool)]) f (headOf Try.f19 0) ((Lt_sam 0).mk' x) : Option (ResT [.v (.bool)]))
noncomputable def L_sam_2 (f : Nat) (x : SSd × SSd × Int × SDs × SDs × Int) : Option (Bool) := (runX (C_sam) Lt_sam (Kret Try.prog [.tmp 4] [.v (.bool)]) f (headOf Try.f19 2) ((Lt_sam 2).mk' x) : Option (ResT [.v (.bool)]))
theorem M_sam_eq (f : Nat) (a : SSd) (b : SSd) : M_sam (f + 1) (a,b) =
  bif a.1 != b.1 then some false else bif a.2.1 != b.2.1 then some false else bif (↑(List.length a.2.2) : Int) != (↑(List.length b.2.2) : Int) then some false else L_sam_0 f (a,b,0) := by kernel_rfl
theorem L_sam_0_eq (f : Nat) (a : SSd) (b : SSd) (i : Int) : L_sam_0 (f + 1) (a,b,i) =
  bif decide (i < (↑(List.length a.2.2) : Int)) then bif decide (0 ≤ i) && decide (i < (↑(List.length a.2.2) : Int)) then bif decide (0 ≤ i) && decide (i < (↑(List.length b.2.2) : Int)) then bif (List.getD a.2.2 i.toNat zQ).1 != (List.getD b.2.2 i.toNat zQ).1 then some false else bif (List.getD a.2.2 i.toNat zQ).2.1 != (List.getD b.2.2 i.toNat zQ).2.1 then some false else bif (List.getD a.2.2 i.toNat zQ).2.2.1 != (List.getD b.2.2 i.toNat zQ).2.2.1 then some false else bif (List.getD a.2.2 i.toNat zQ).2.2.2.1 != (List.getD b.2.2 i.toNat zQ).2.2.2.1 then some false else bif (List.getD a.2.2 i.toNat zQ).2.2.2.2.1 != (List.getD b.2.2 i.toNat zQ).2.2.2.2.1 then some false else bif (List.getD a.2.2 i.toNat zQ).2.2.2.2.2.1 != (List.getD b.2.2 i.toNat zQ).2.2.2.2.2.1 then some false else bif (List.getD a.2.2 i.toNat zQ).2.2.2.2.2.2.1 != (List.getD b.2.2 i.toNat zQ).2.2.2.2.2.2.1 then some false else bif (List.getD a.2.2 i.toNat zQ).2.2.2.2.2.2.2.1 != (List.getD b.2.2 i.toNat zQ).2.2.2.2.2.2.2.1 then some false else bif (List.getD a.2.2 i.toNat zQ).2.2.2.2.2.2.2.2.1 != (List.getD b.2.2 i.toNat zQ).2.2.2.2.2.2.2.2.1 then some false else bif (List.getD a.2.2 i.toNat zQ).2.2.2.2.2.2.2.2.2.1 != (List.getD b.2.2 i.toNat zQ).2.2.2.2.2.2.2.2.2.1 then some false else bif (↑(List.length (List.getD a.2.2 i.toNat zQ).2.2.2.2.2.2.2.2.2.2) : Int) != (↑(List.length (List.getD b.2.2 i.toNat zQ).2.2.2.2.2.2.2.2.2.2) : Int) then some false else L_sam_2 f (a,b,i,List.getD a.2.2 i.toNat zQ,List.getD b.2.2 i.toNat zQ,0) else none else none else some true := by kernel_rfl
theorem L_sam_2_eq (f : Nat) (a : SSd) (b : SSd) (i : Int) (x : SDs) (y : SDs) (k : Int) : L_sam_2 (f + 1) (a,b,i,x,y,k) =
  bif decide (k < (↑(List.length x.2.2.2.2.2.2.2.2.2.2) : Int)) then bif decide (0 ≤ k) && decide (k < (↑(List.length x.2.2.2.2.2.2.2.2.2.2) : Int)) then bif decide (0 ≤ k) && decide (k < (↑(List.length y.2.2.2.2.2.2.2.2.2.2) : Int)) then bif List.getD x.2.2.2.2.2.2.2.2.2.2 k.toNat 0 != List.getD y.2.2.2.2.2.2.2.2.2.2 k.toNat 0 then some false else L_sam_2 f (a,b,i,x,y,IntKind.i64.wrap (k + 1)) else none else none else L_sam_0 f (a,b,IntKind.i64.wrap (i + 1)) := by kernel_rfl
noncomputable def F_sam_2 (K_0 : (SSd × SSd × Nat) → Bool) : List (Int) → (SSd × SSd × Nat × SDs × SDs × Nat) → Bool
 | [],(a,b,i,x,y,k) => K_0 (a,b,i + 1)
 | uu :: rest,(a,b,i,x,y,k) => bif uu != List.getD y.2.2.2.2.2.2.2.2.2.2 (↑k : Int).toNat 0 then false else F_sam_2 K_0 rest (a,b,i,x,y,k + 1)
noncomputable def P_sam_2 (KP_0 : (SSd × SSd × Nat) → Bool) : List (Int) → (SSd × SSd × Nat × SDs × SDs × Nat) → Bool
 | [],(a,b,i,x,y,k) => KP_0 (a,b,i + 1)
 | uu :: rest,(a,b,i,x,y,k) => decide ((↑k : Int) < (↑(List.length y.2.2.2.2.2.2.2.2.2.2) : Int)) && bif uu != List.getD y.2.2.2.2.2.2.2.2.2.2 (↑k : Int).toNat 0 then true else P_sam_2 KP_0 rest (a,b,i,x,y,k + 1)
theorem A_sam_2 {K_0 : (SSd × SSd × Nat) → Bool} {KP_0 : (SSd × SSd × Nat) → Bool} {rest_0 : List (Int × Int × Int × Int × Bool × Bool × Bool × Int × Int × Int × (List (Int)))} (hK_0 : ∀ (a : SSd) (b : SSd) (i : Nat) (hd : a.snd.snd.drop i = rest_0) (hl : a.snd.snd.length ≤ 1099511627776),Rns (fun f => L_sam_0 f (a,b,((i : Nat) : Int))) (KP_0 (a,b,i)) (K_0 (a,b,i))) : ∀ (rest : List (Int)) (a : SSd) (b : SSd) (i : Nat) (x : SDs) (y : SDs) (k : Nat) (hd : x.snd.snd.snd.snd.snd.snd.snd.snd.snd.snd.drop k = rest) (hl : x.snd.snd.snd.snd.snd.snd.snd.snd.snd.snd.length ≤ 1099511627776) (hd_0 : a.snd.snd.drop (i + 1) = rest_0) (hl_0 : a.snd.snd.length ≤ 1099511627776) (ht_0 : i < a.snd.snd.length),Rns (fun f => L_sam_2 f (a,b,((i : Nat) : Int),x,y,((k : Nat) : Int))) (P_sam_2 KP_0 rest (a,b,i,x,y,k)) (F_sam_2 K_0 rest (a,b,i,x,y,k))
 | [],a,b,i,x,y,k,hd,hl,hd_0,hl_0,ht_0 => ev_step (T := fun f => L_sam_0 f (a,b,(↑(i + 1) : Int))) (fun f => (L_sam_2_eq f _ _ _ _ _ _).trans (by simp only [ge_dec (drop_ge hd),ge0,Bool.and_self,Bool.true_and,cond_true,cond_false,List.length_set,wrap_succ ht_0 hl_0,lt_dec ht_0,getD_set ht_0] <;> rfl)) (hK_0 _ _ _ (by first | exact hd_0 | exact drop_setS hd_0 | exact drop_setS (drop_setS hd_0)) (by first | exact hl_0 | simpa using hl_0))
 | uu :: rest,a,b,i,x,y,k,hd,hl,hd_0,hl_0,ht_0 => ev_step (T := fun f => bif decide ((↑k : Int) < (↑(List.length y.2.2.2.2.2.2.2.2.2.2) : Int)) then bif uu != List.getD y.2.2.2.2.2.2.2.2.2.2 (↑k : Int).toNat 0 then some false else L_sam_2 f (a,b,(↑i : Int),x,y,(↑(k + 1) : Int)) else none) (fun f => (L_sam_2_eq f _ _ _ _ _ _).trans (by simp only [lt_dec (drop_lt hd),drop_get hd,wrap_succ (drop_lt hd) hl,getD_set (drop_lt hd),ge0,Bool.and_self,Bool.true_and,cond_true,cond_false,List.length_set,wrap_succ ht_0 hl_0,lt_dec ht_0,getD_set ht_0] <;> rfl)) (ev_chk (ev_bif ev_some (A_sam_2 hK_0 rest _ _ _ _ _ _ (by first | exact drop_succ hd | exact drop_set hd | exact drop_setS (drop_set hd)) (by first | exact hl | simpa using hl) (by first | exact hd_0 | exact drop_setS hd_0 | exact drop_setS (drop_setS hd_0)) (by first | exact hl_0 | simpa using hl_0) (by first | exact ht_0 | simpa using ht_0))))
noncomputable def F_sam_0 : List (Int × Int × Int × Int × Bool × Bool × Bool × Int × Int × Int × (List (Int))) → (SSd × SSd × Nat) → Bool
 | [],(a,b,i) => true
 | uu :: rest,(a,b,i) => bif uu.1 != (List.getD b.2.2 (↑i : Int).toNat zQ).1 then false else bif uu.2.1 != (List.getD b.2.2 (↑i : Int).toNat zQ).2.1 then false else bif uu.2.2.1 != (List.getD b.2.2 (↑i : Int).toNat zQ).2.2.1 then false else bif uu.2.2.2.1 != (List.getD b.2.2 (↑i : Int).toNat zQ).2.2.2.1 then false else bif uu.2.2.2.2.1 != (List.getD b.2.2 (↑i : Int).toNat zQ).2.2.2.2.1 then false else bif uu.2.2.2.2.2.1 != (List.getD b.2.2 (↑i : Int).toNat zQ).2.2.2.2.2.1 then false else bif uu.2.2.2.2.2.2.1 != (List.getD b.2.2 (↑i : Int).toNat zQ).2.2.2.2.2.2.1 then false else bif uu.2.2.2.2.2.2.2.1 != (List.getD b.2.2 (↑i : Int).toNat zQ).2.2.2.2.2.2.2.1 then false else bif uu.2.2.2.2.2.2.2.2.1 != (List.getD b.2.2 (↑i : Int).toNat zQ).2.2.2.2.2.2.2.2.1 then false else bif uu.2.2.2.2.2.2.2.2.2.1 != (List.getD b.2.2 (↑i : Int).toNat zQ).2.2.2.2.2.2.2.2.2.1 then false else bif (↑(List.length uu.2.2.2.2.2.2.2.2.2.2) : Int) != (↑(List.length (List.getD b.2.2 (↑i : Int).toNat zQ).2.2.2.2.2.2.2.2.2.2) : Int) then false else F_sam_2 (F_sam_0 rest) uu.2.2.2.2.2.2.2.2.2.2 (a,b,i,uu,List.getD b.2.2 (↑i : Int).toNat zQ,0)
noncomputable def P_sam_0 : List (Int × Int × Int × Int × Bool × Bool × Bool × Int × Int × Int × (List (Int))) → (SSd × SSd × Nat) → Bool
 | [],(a,b,i) => true
 | uu :: rest,(a,b,i) => decide ((↑i : Int) < (↑(List.length b.2.2) : Int)) && bif uu.1 != (List.getD b.2.2 (↑i : Int).toNat zQ).1 then true else bif uu.2.1 != (List.getD b.2.2 (↑i : Int).toNat zQ).2.1 then true else bif uu.2.2.1 != (List.getD b.2.2 (↑i : Int).toNat zQ).2.2.1 then true else bif uu.2.2.2.1 != (List.getD b.2.2 (↑i : Int).toNat zQ).2.2.2.1 then true else bif uu.2.2.2.2.1 != (List.getD b.2.2 (↑i : Int).toNat zQ).2.2.2.2.1 then true else bif uu.2.2.2.2.2.1 != (List.getD b.2.2 (↑i : Int).toNat zQ).2.2.2.2.2.1 then true else bif uu.2.2.2.2.2.2.1 != (List.getD b.2.2 (↑i : Int).toNat zQ).2.2.2.2.2.2.1 then true else bif uu.2.2.2.2.2.2.2.1 != (List.getD b.2.2 (↑i : Int).toNat zQ).2.2.2.2.2.2.2.1 then true else bif uu.2.2.2.2.2.2.2.2.1 != (List.getD b.2.2 (↑i : Int).toNat zQ).2.2.2.2.2.2.2.2.1 then true else bif uu.2.2.2.2.2.2.2.2.2.1 != (List.getD b.2.2 (↑i : Int).toNat zQ).2.2.2.2.2.2.2.2.2.1 then true else bif (↑(List.length uu.2.2.2.2.2.2.2.2.2.2) : Int) != (↑(List.length (List.getD b.2.2 (↑i : Int).toNat zQ).2.2.2.2.2.2.2.2.2.2) : Int) then true else decide (uu.2.2.2.2.2.2.2.2.2.2.length ≤ 1099511627776) && P_sam_2 (P_sam_0 rest) uu.2.2.2.2.2.2.2.2.2.2 (a,b,i,uu,List.getD b.2.2 (↑i : Int).toNat zQ,0)
theorem A_sam_0 : ∀ (rest : List (Int × Int × Int × Int × Bool × Bool × Bool × Int × Int × Int × (List (Int)))) (a : SSd) (b : SSd) (i : Nat) (hd : a.snd.snd.drop i = rest) (hl : a.snd.snd.length ≤ 1099511627776),Rns (fun f => L_sam_0 f (a,b,((i : Nat) : Int))) (P_sam_0 rest (a,b,i)) (F_sam_0 rest (a,b,i))
 | [],a,b,i,hd,hl => ev_step (T := fun f => some true) (fun f => (L_sam_0_eq f _ _ _).trans (by simp only [ge_dec (drop_ge hd),ge0,Bool.and_self,Bool.true_and,cond_true,cond_false,List.length_set] <;> rfl)) ev_some
 | uu :: rest,a,b,i,hd,hl => ev_step (T := fun f => bif decide ((↑i : Int) < (↑(List.length b.2.2) : Int)) then bif uu.1 != (List.getD b.2.2 (↑i : Int).toNat zQ).1 then some false else bif uu.2.1 != (List.getD b.2.2 (↑i : Int).toNat zQ).2.1 then some false else bif uu.2.2.1 != (List.getD b.2.2 (↑i : Int).toNat zQ).2.2.1 then some false else bif uu.2.2.2.1 != (List.getD b.2.2 (↑i : Int).toNat zQ).2.2.2.1 then some false else bif uu.2.2.2.2.1 != (List.getD b.2.2 (↑i : Int).toNat zQ).2.2.2.2.1 then some false else bif uu.2.2.2.2.2.1 != (List.getD b.2.2 (↑i : Int).toNat zQ).2.2.2.2.2.1 then some false else bif uu.2.2.2.2.2.2.1 != (List.getD b.2.2 (↑i : Int).toNat zQ).2.2.2.2.2.2.1 then some false else bif uu.2.2.2.2.2.2.2.1 != (List.getD b.2.2 (↑i : Int).toNat zQ).2.2.2.2.2.2.2.1 then some false else bif uu.2.2.2.2.2.2.2.2.1 != (List.getD b.2.2 (↑i : Int).toNat zQ).2.2.2.2.2.2.2.2.1 then some false else bif uu.2.2.2.2.2.2.2.2.2.1 != (List.getD b.2.2 (↑i : Int).toNat zQ).2.2.2.2.2.2.2.2.2.1 then some false else bif (↑(List.length uu.2.2.2.2.2.2.2.2.2.2) : Int) != (↑(List.length (List.getD b.2.2 (↑i : Int).toNat zQ).2.2.2.2.2.2.2.2.2.2) : Int) then some false else L_sam_2 f (a,b,(↑i : Int),uu,List.getD b.2.2 (↑i : Int).toNat zQ,0) else none) (fun f => (L_sam_0_eq f _ _ _).trans (by simp only [lt_dec (drop_lt hd),drop_get hd,wrap_succ (drop_lt hd) hl,getD_set (drop_lt hd),ge0,Bool.and_self,Bool.true_and,cond_true,cond_false,List.length_set] <;> rfl)) (ev_chk (ev_bif ev_some (ev_bif ev_some (ev_bif ev_some (ev_bif ev_some (ev_bif ev_some (ev_bif ev_some (ev_bif ev_some (ev_bif ev_some (ev_bif ev_some (ev_bif ev_some (ev_bif ev_some (ev_and fun hh => A_sam_2 (A_sam_0 rest) _ _ _ _ _ _ _ rfl (of_decide_eq_true hh) (by first | exact drop_succ hd | exact drop_set hd | exact drop_setS (drop_set hd)) (by first | exact hl | simpa using hl) (by first | exact drop_lt hd | simpa using drop_lt hd))))))))))))))
noncomputable def F_sam : (SSd × SSd) → Bool
 | (a,b) => bif a.1 != b.1 then false else bif a.2.1 != b.2.1 then false else bif (↑(List.length a.2.2) : Int) != (↑(List.length b.2.2) : Int) then false else F_sam_0 a.2.2 (a,b,0)
noncomputable def P_sam : (SSd × SSd) → Bool
 | (a,b) => bif a.1 != b.1 then true else bif a.2.1 != b.2.1 then true else bif (↑(List.length a.2.2) : Int) != (↑(List.length b.2.2) : Int) then true else decide (a.2.2.length ≤ 1099511627776) && P_sam_0 a.2.2 (a,b,0)
theorem sam_auto : ∀ a : SSd × SSd,Rns (fun f => M_sam f a) (P_sam a) (F_sam a)
 | (a,b) => ev_step (fun f => M_sam_eq f _ _) (ev_bif ev_some (ev_bif ev_some (ev_bif ev_some (ev_and fun hh => A_sam_0 _ _ _ _ rfl (of_decide_eq_true hh)))))
theorem sam_2 {K KP : SSd × SSd × Nat → Bool} {a b : SSd} {i : Nat} {x y : SDs} (hl : (ups x).length = (ups y).length) (hP : KP (a,b,i + 1) = true) : ∀ (r : List Int) (k : Nat),(ups x).drop k = r → F_sam_2 K r (a,b,i,x,y,k) = (decide (r = (ups y).drop k) && K (a,b,i + 1)) ∧ P_sam_2 KP r (a,b,i,x,y,k) = true
 | [],k,h => by
  have hk : (ups x).length ≤ k := List.drop_eq_nil_iff.1 h
  simp only [F_sam_2,P_sam_2,hP]
  rw [List.drop_eq_nil_of_le (by omega)]
  exact ⟨by simp,trivial⟩
 | u :: r,k,h => by
  obtain ⟨h1,h2,h3⟩ := drop_get2 0 h
  obtain ⟨i1,i2⟩ := sam_2 hl hP r (k + 1) h3
  have hy : k < (ups y).length := by omega
  rw [drop_getD 0 hy,dec_cons]
  simp only [F_sam_2,P_sam_2,i2,Int.toNat_natCast,bneD,bif_nf,Bool.and_assoc]
  rw [i1]
  refine ⟨rfl,?_⟩
  rw [decide_eq_true (show ((k : Nat) : Int) < ((List.length (ups y) : Nat) : Int) by omega),Bool.true_and]
  exact bif_nt fun _ => rfl
theorem sds_eq (x y : SDs) : decide (x = y) = (decide (x.1 = y.1) && (decide (x.2.1 = y.2.1) && (decide (x.2.2.1 = y.2.2.1) && (decide (x.2.2.2.1 = y.2.2.2.1) && (decide (x.2.2.2.2.1 = y.2.2.2.2.1) && (decide (x.2.2.2.2.2.1 = y.2.2.2.2.2.1) && (decide (x.2.2.2.2.2.2.1 = y.2.2.2.2.2.2.1) && (decide (x.2.2.2.2.2.2.2.1 = y.2.2.2.2.2.2.2.1) && (decide (x.2.2.2.2.2.2.2.2.1 = y.2.2.2.2.2.2.2.2.1) && (decide (x.2.2.2.2.2.2.2.2.2.1 = y.2.2.2.2.2.2.2.2.2.1) && decide (ups x = ups y))))))))))) := by
 obtain ⟨x1,x2,x3,x4,x5,x6,x7,x8,x9,x10,x11⟩ := x
 obtain ⟨y1,y2,y3,y4,y5,y6,y7,y8,y9,y10,y11⟩ := y
 simp only [Prod.mk.injEq,Bool.decide_and,ups]
theorem sam_0 {a b : SSd} (hl : a.2.2.length = b.2.2.length) (ha : okD a = true) : ∀ (r : List SDs) (i : Nat),a.2.2.drop i = r → F_sam_0 r (a,b,i) = decide (r = b.2.2.drop i) ∧ P_sam_0 r (a,b,i) = true
 | [],i,h => by
  have hk : a.2.2.length ≤ i := List.drop_eq_nil_iff.1 h
  rw [List.drop_eq_nil_of_le (by omega)]
  exact ⟨rfl,rfl⟩
 | u :: r,i,h => by
  obtain ⟨h1,h2,h3⟩ := drop_get2 zDs h
  obtain ⟨i1,i2⟩ := sam_0 hl ha r (i + 1) h3
  have hb : i < b.2.2.length := by omega
  have hu : (ups u).length ≤ 1000 := okD_mem ha (by
   have : u ∈ a.2.2.drop i := by rw [h]; exact List.mem_cons_self ..
   exact List.mem_of_mem_drop this)
  rw [drop_getD zDs hb,dec_cons,sds_eq]
  simp only [F_sam_0,P_sam_0,Int.toNat_natCast]
  generalize hv : b.2.2.getD i zDs = v
  have hv' : List.getD b.2.2 i zQ = v := hv
  simp only [hv',bneD,bif_nf]
  rw [decide_eq_true (show ((i : Nat) : Int) < ((List.length b.2.2 : Nat) : Int) by omega),Bool.true_and]
  have hX : (decide (((List.length (ups u) : Nat) : Int) = ((List.length (ups v) : Nat) : Int)) && F_sam_2 (F_sam_0 r) (ups u) (a,b,i,u,v,0)) = (decide (ups u = ups v) && decide (r = b.2.2.drop (i + 1))) := by
   by_cases hlen : (ups u).length = (ups v).length
   ·rw [decide_eq_true (by omega),Bool.true_and,(sam_2 (K := F_sam_0 r) (KP := P_sam_0 r) hlen i2 (ups u) 0 rfl).1,i1,List.drop_zero]
   ·rw [decide_eq_false (by omega),decide_eq_false (fun h => hlen (by rw [h]))]; rfl
  constructor
  ·simp only [ups] at hX ⊢
   rw [hX]
   simp only [Bool.and_assoc]
  ·refine bif_nt fun _ => bif_nt fun _ => bif_nt fun _ => bif_nt fun _ => bif_nt fun _ => bif_nt fun _ => bif_nt fun _ => bif_nt fun _ => bif_nt fun _ => bif_nt fun _ => bif_nt fun hl => ?_
   have hlen : (ups u).length = (ups v).length := by
    have hl2 : ((List.length (ups u) : Nat) : Int) = ((List.length (ups v) : Nat) : Int) := of_decide_eq_true hl
    omega
   rw [Bool.and_eq_true]
   exact ⟨decide_eq_true (show (ups u).length ≤ 1099511627776 by omega),(sam_2 (K := F_sam_0 r) (KP := P_sam_0 r) hlen i2 (ups u) 0 rfl).2⟩
instance decSd : DecidableEq SSd := @instDecidableEqProd Int _ _ (@instDecidableEqProd Int _ _ (@instDecidableEqList _ decDs))
theorem sam_both : ∀ p : SSd × SSd,(fun p : SSd × SSd => okD p.1) p = true → P_sam p = true ∧ F_sam p = decide (p.1 = p.2) := by
 rintro ⟨a,b⟩ h
 have ha : okD a = true := h
 have hle := okD_len ha
 have e : decide (a = b) = (decide (a.1 = b.1) && (decide (a.2.1 = b.2.1) && decide (a.2.2 = b.2.2))) := by
  obtain ⟨a1,a2,a3⟩ := a
  obtain ⟨b1,b2,b3⟩ := b
  simp only [Prod.mk.injEq,Bool.decide_and]
 show P_sam (a,b) = true ∧ F_sam (a,b) = decide (a = b)
 rw [e]
 simp only [P_sam,F_sam,bneD,bif_nf]
 by_cases hl : a.2.2.length = b.2.2.length
 ·obtain ⟨i1,i2⟩ := sam_0 hl ha a.2.2 0 rfl
  refine ⟨bif_nt fun _ => bif_nt fun _ => bif_nt fun _ => ?_,?_⟩
  ·rw [Bool.and_eq_true]; exact ⟨decide_eq_true (by omega),i2⟩
  ·rw [i1,decide_eq_true (show ((List.length a.2.2 : Nat) : Int) = ((List.length b.2.2 : Nat) : Int) by omega),List.drop_zero,Bool.true_and]
 ·have e2 : decide (((List.length a.2.2 : Nat) : Int) = ((List.length b.2.2 : Nat) : Int)) = false := decide_eq_false (by omega)
  rw [e2,decide_eq_false (show ¬ a.2.2 = b.2.2 from fun h => hl (by rw [h]))]
  refine ⟨bif_nt fun _ => bif_nt fun _ => rfl,?_⟩
  rfl
theorem sam_P : ∀ p : SSd × SSd,(fun p : SSd × SSd => okD p.1) p = true → P_sam p = true := fun p h => (sam_both p h).1
theorem sam_F : ∀ p : SSd × SSd,(fun p : SSd × SSd => okD p.1) p = true → F_sam p = (fun p : SSd × SSd => decide (p.1 = p.2)) p := fun p h => (sam_both p h).2
theorem sam_run : ∀ a,(fun p : SSd × SSd => okD p.1 : SSd × SSd → Bool) a = true → ∃ f,M_sam f a = some ((fun p : SSd × SSd => decide (p.1 = p.2) : SSd × SSd → Bool) a) := fun a h => by have h1 := sam_auto a (sam_P a h); rw [sam_F a h] at h1; exact h1
noncomputable def E_sam : Ent := ⟨19,[.g tSSd,.g tSSd],[.v (.bool)],fun a => (fun p : SSd × SSd => okD p.1 : SSd × SSd → Bool) a,fun a => (fun p : SSd × SSd => decide (p.1 = p.2) : SSd × SSd → Bool) a⟩
theorem E_sam_ok : E_sam.Ok Try.prog := fun a hp vs hv => (sam_run a hp).elim fun f h => fnX_ok (C := C_sam) (Lt := Lt_sam) (fn := Try.f19) (rs := [.tmp 4]) [.g tSSd,.g tSSd] [.v (.bool)] mixed es_sam Try.func19 rfl rfl rfl (by kernel_rfl) (by kernel_rfl) f h vs hv
end Go.AL
namespace Go.AL
open Go.Proofs
abbrev dId (d : SDs) : Int := d.1
abbrev dW (d : SDs) : Int := d.2.1
abbrev dPer (d : SDs) : Int := d.2.2.1
abbrev dBud (d : SDs) : Int := d.2.2.2.1
abbrev dBlk (d : SDs) : Bool := d.2.2.2.2.1
abbrev dDis (d : SDs) : Bool := d.2.2.2.2.2.1
abbrev dRem (d : SDs) : Bool := d.2.2.2.2.2.2.1
abbrev dDl (d : SDs) : Int := d.2.2.2.2.2.2.2.1
abbrev dLft (d : SDs) : Int := d.2.2.2.2.2.2.2.2.1
abbrev dPas (d : SDs) : Int := d.2.2.2.2.2.2.2.2.2.1
def beB (v : Int) (d : SDs) : Bool := decide (dW d ≥ 1) && (decide (dW d ≤ 10) && (decide (dPas d ≥ 0) && (decide (dPas d ≤ v + 2520) && ((dBlk d || decide (dPas d ≥ v)) && (decide (dPer d = 0) && (decide (dBud d = 0) && (decide (dDl d = 0) && (decide (dLft d = 0) && !dRem d))))))))
def rtB (n : Int) (d : SDs) : Bool := decide (dPas d = 0) && (perB (dPer d) && (decide (dBud d ≥ 1) && (decide (dBud d ≤ dPer d) && (decide (dDl d > n) && (decide (dDl d ≤ n + dPer d) && (decide (dLft d ≥ 0) && (decide (dLft d ≤ dBud d) && (!dRem d || (!dDis d && decide ((ups d).length = 0))))))))))
def corB (n v : Int) (d : SDs) : Bool := bif decide (dW d = 0) then rtB n d else beB v d
def upB (d : SDs) : Bool := decide ((ups d).length ≤ 16) && (ups d).all fun e => decide (0 < e)
def vdiS (a : SDs × Int × Int) : Bool := decide (0 ≤ dId a.1) && (decide (dId a.1 < 32) && (upB a.1 && corB a.2.1 a.2.2 a.1))
def ritS (a : SSd × SDs) : Bool := upB a.2 && corB a.1.1 a.1.2.1 a.2
def rngB (n v : Int) : Bool := decide (0 ≤ n) && (decide (n ≤ 1099511627776) && (decide (0 ≤ v) && decide (v ≤ 1125899906842624)))
theorem perB_rng {p : Int} (h : perB p = true) : 1 ≤ p ∧ p ≤ 1024 := by
 simp only [perB,Bool.and_eq_true,decide_eq_true_eq] at h
 exact ⟨h.1,h.2.1⟩
theorem bif_af {c x : Bool} : (bif c then x else false) = (c && x) := by cases c <;> rfl
theorem len0i {α : Type} (l : List α) : decide (((l.length : Nat) : Int) = 0) = decide (l.length = 0) := by
 by_cases h : l.length = 0
 ·rw [decide_eq_true h,decide_eq_true (by omega)]
 ·rw [decide_eq_false h,decide_eq_false (by omega)]
noncomputable def C_vdi : Cfg := ⟨Try.prog,[E_irt,E_ipd],pmT [],154,[],[],[],[]⟩
theorem es_vdi : EsOk Try.prog [E_irt,E_ipd] [] [] := es_cons E_irt_ok (es_cons E_ipd_ok (es_nil))
def Lt_vdi : Nat → LD := ldT [(0,⟨[.c 1 (.int .i64),.c 2 (.int .i64),.box 3 3 53 11 tSDs,.c 24 (.sl [.int .i64]),.c 25 (.int .i64),.c 26 (.int .i64)],[],0⟩)]
noncomputable def M_vdi (f : Nat) (a : SDs × Int × Int) : Option (Bool) := (runX (C_vdi) Lt_vdi (Kret Try.prog [.tmp 6] [.v (.bool)]) f [.code (bodyOf Try.f36)] (initX [.g tSDs,.c (.int .i64),.c (.int .i64)] a) : Option (ResT [.v (.bool)]))
noncomputable def L_vdi_0 (f : Nat) (x : Int × Int × SDs × (List (Int)) × Int × Int) : Option (Bool) := (runX (C_vdi) Lt_vdi (Kret Try.prog [.tmp 6] [.v (.bool)]) f (headOf Try.f36 0) ((Lt_vdi 0).mk' x) : Option (ResT [.v (.bool)]))
theorem M_vdi_eq (f : Nat) (d : SDs) (now : Int) (virtual : Int) : M_vdi (f + 1) (d,now,virtual) =
  bif decide (d.1 < 0) then some false else bif decide (d.1 ≥ 32) then some false else bif decide ((↑(List.length d.2.2.2.2.2.2.2.2.2.2) : Int) > 16) then some false else L_vdi_0 f (now,virtual,d,d.2.2.2.2.2.2.2.2.2.2,(↑(List.length d.2.2.2.2.2.2.2.2.2.2) : Int),0) := by kernel_rfl
theorem L_vdi_0_eq (f : Nat) (now : Int) (virtual : Int) (d : SDs) (x24 : List (Int)) (x25 : Int) (x26 : Int) : L_vdi_0 (f + 1) (now,virtual,d,x24,x25,x26) =
  bif decide (x26 < x25) then bif decide (0 ≤ x26) && decide (x26 < (↑x24.length : Int)) then bif decide (x24.getD x26.toNat 0 ≤ 0) then some false else L_vdi_0 f (now,virtual,d,x24,x25,IntKind.i64.wrap (x26 + 1)) else none else bif !d.2.1 == 0 then bif decide (d.2.1 ≥ 1) then bif decide (d.2.1 ≤ 10) then bif decide (d.2.2.2.2.2.2.2.2.2.1 ≥ 0) then bif decide (d.2.2.2.2.2.2.2.2.2.1 ≤ IntKind.i64.wrap (virtual + 2520)) then bif d.2.2.2.2.1 then bif d.2.2.1 == 0 then bif d.2.2.2.1 == 0 then bif d.2.2.2.2.2.2.2.1 == 0 then bif d.2.2.2.2.2.2.2.2.1 == 0 then some !d.2.2.2.2.2.2.1 else some false else some false else some false else some false else bif decide (d.2.2.2.2.2.2.2.2.2.1 ≥ virtual) then bif d.2.2.1 == 0 then bif d.2.2.2.1 == 0 then bif d.2.2.2.2.2.2.2.1 == 0 then bif d.2.2.2.2.2.2.2.2.1 == 0 then some !d.2.2.2.2.2.2.1 else some false else some false else some false else some false else some false else some false else some false else some false else some false else bif d.2.2.2.2.2.2.2.2.2.1 == 0 then bif perB d.2.2.1 then bif decide (d.2.2.2.1 ≥ 1) then bif decide (d.2.2.2.1 ≤ d.2.2.1) then bif decide (d.2.2.2.2.2.2.2.1 > now) then bif decide (d.2.2.2.2.2.2.2.1 ≤ IntKind.i64.wrap (now + d.2.2.1)) then bif decide (d.2.2.2.2.2.2.2.2.1 ≥ 0) then bif decide (d.2.2.2.2.2.2.2.2.1 ≤ d.2.2.2.1) then bif !d.2.2.2.2.2.2.1 then some true else bif !d.2.2.2.2.2.1 then some ((↑(List.length d.2.2.2.2.2.2.2.2.2.2) : Int) == 0) else some false else some false else some false else some false else some false else some false else some false else some false else some false := by kernel_rfl
noncomputable def F_vdi_0 : List (Int) → (Int × Int × SDs × (List (Int)) × Int × Nat) → Bool
 | [],(now,virtual,d,x24,x25,x26) => bif !d.2.1 == 0 then bif decide (d.2.1 ≥ 1) then bif decide (d.2.1 ≤ 10) then bif decide (d.2.2.2.2.2.2.2.2.2.1 ≥ 0) then bif decide (d.2.2.2.2.2.2.2.2.2.1 ≤ IntKind.i64.wrap (virtual + 2520)) then bif d.2.2.2.2.1 then bif d.2.2.1 == 0 then bif d.2.2.2.1 == 0 then bif d.2.2.2.2.2.2.2.1 == 0 then bif d.2.2.2.2.2.2.2.2.1 == 0 then !d.2.2.2.2.2.2.1 else false else false else false else false else bif decide (d.2.2.2.2.2.2.2.2.2.1 ≥ virtual) then bif d.2.2.1 == 0 then bif d.2.2.2.1 == 0 then bif d.2.2.2.2.2.2.2.1 == 0 then bif d.2.2.2.2.2.2.2.2.1 == 0 then !d.2.2.2.2.2.2.1 else false else false else false else false else false else false else false else false else false else bif d.2.2.2.2.2.2.2.2.2.1 == 0 then bif perB d.2.2.1 then bif decide (d.2.2.2.1 ≥ 1) then bif decide (d.2.2.2.1 ≤ d.2.2.1) then bif decide (d.2.2.2.2.2.2.2.1 > now) then bif decide (d.2.2.2.2.2.2.2.1 ≤ IntKind.i64.wrap (now + d.2.2.1)) then bif decide (d.2.2.2.2.2.2.2.2.1 ≥ 0) then bif decide (d.2.2.2.2.2.2.2.2.1 ≤ d.2.2.2.1) then bif !d.2.2.2.2.2.2.1 then true else bif !d.2.2.2.2.2.1 then (↑(List.length d.2.2.2.2.2.2.2.2.2.2) : Int) == 0 else false else false else false else false else false else false else false else false else false
 | uu :: rest,(now,virtual,d,x24,x25,x26) => bif decide (uu ≤ 0) then false else F_vdi_0 rest (now,virtual,d,x24,x25,x26 + 1)
noncomputable def P_vdi_0 : List (Int) → (Int × Int × SDs × (List (Int)) × Int × Nat) → Bool
 | [],(now,virtual,d,x24,x25,x26) => true
 | uu :: rest,(now,virtual,d,x24,x25,x26) => bif decide (uu ≤ 0) then true else P_vdi_0 rest (now,virtual,d,x24,x25,x26 + 1)
theorem A_vdi_0 : ∀ (rest : List (Int)) (now : Int) (virtual : Int) (d : SDs) (x24 : List (Int)) (x25 : Int) (x26 : Nat) (hd : x24.drop x26 = rest) (hn : x25 = ((x24.length : Nat) : Int)) (hl : x24.length ≤ 1099511627776),Rns (fun f => L_vdi_0 f (now,virtual,d,x24,x25,((x26 : Nat) : Int))) (P_vdi_0 rest (now,virtual,d,x24,x25,x26)) (F_vdi_0 rest (now,virtual,d,x24,x25,x26))
 | [],now,virtual,d,x24,x25,x26,hd,hn,hl => ev_step (T := fun f => bif !d.2.1 == 0 then bif decide (d.2.1 ≥ 1) then bif decide (d.2.1 ≤ 10) then bif decide (d.2.2.2.2.2.2.2.2.2.1 ≥ 0) then bif decide (d.2.2.2.2.2.2.2.2.2.1 ≤ IntKind.i64.wrap (virtual + 2520)) then bif d.2.2.2.2.1 then bif d.2.2.1 == 0 then bif d.2.2.2.1 == 0 then bif d.2.2.2.2.2.2.2.1 == 0 then bif d.2.2.2.2.2.2.2.2.1 == 0 then some !d.2.2.2.2.2.2.1 else some false else some false else some false else some false else bif decide (d.2.2.2.2.2.2.2.2.2.1 ≥ virtual) then bif d.2.2.1 == 0 then bif d.2.2.2.1 == 0 then bif d.2.2.2.2.2.2.2.1 == 0 then bif d.2.2.2.2.2.2.2.2.1 == 0 then some !d.2.2.2.2.2.2.1 else some false else some false else some false else some false else some false else some false else some false else some false else some false else bif d.2.2.2.2.2.2.2.2.2.1 == 0 then bif perB d.2.2.1 then bif decide (d.2.2.2.1 ≥ 1) then bif decide (d.2.2.2.1 ≤ d.2.2.1) then bif decide (d.2.2.2.2.2.2.2.1 > now) then bif decide (d.2.2.2.2.2.2.2.1 ≤ IntKind.i64.wrap (now + d.2.2.1)) then bif decide (d.2.2.2.2.2.2.2.2.1 ≥ 0) then bif decide (d.2.2.2.2.2.2.2.2.1 ≤ d.2.2.2.1) then bif !d.2.2.2.2.2.2.1 then some true else bif !d.2.2.2.2.2.1 then some ((↑(List.length d.2.2.2.2.2.2.2.2.2.2) : Int) == 0) else some false else some false else some false else some false else some false else some false else some false else some false else some false) (fun f => (L_vdi_0_eq f _ _ _ _ _ _).trans (by simp only [ge_decn hn (drop_ge hd),ge0,Bool.and_self,Bool.true_and,cond_true,cond_false,List.length_set] <;> rfl)) (ev_bift (ev_bift (ev_bift (ev_bift (ev_bift (ev_bift (ev_bift (ev_bift (ev_bift (ev_bift ev_some ev_some) ev_some) ev_some) ev_some) (ev_bift (ev_bift (ev_bift (ev_bift (ev_bift ev_some ev_some) ev_some) ev_some) ev_some) ev_some)) ev_some) ev_some) ev_some) ev_some) (ev_bift (ev_bift (ev_bift (ev_bift (ev_bift (ev_bift (ev_bift (ev_bift (ev_bift ev_some (ev_bift ev_some ev_some)) ev_some) ev_some) ev_some) ev_some) ev_some) ev_some) ev_some) ev_some))
 | uu :: rest,now,virtual,d,x24,x25,x26,hd,hn,hl => ev_step (T := fun f => bif decide (uu ≤ 0) then some false else L_vdi_0 f (now,virtual,d,x24,x25,(↑(x26 + 1) : Int))) (fun f => (L_vdi_0_eq f _ _ _ _ _ _).trans (by simp only [lt_decn hn (drop_lt hd),lt_dec (drop_lt hd),drop_get hd,wrap_succ (drop_lt hd) hl,getD_set (drop_lt hd),ge0,Bool.and_self,Bool.true_and,cond_true,cond_false,List.length_set] <;> rfl)) (ev_bif ev_some (A_vdi_0 rest _ _ _ _ _ _ (by first | exact drop_succ hd | exact drop_set hd | exact drop_setS (drop_set hd)) (by first | exact hn | simpa using hn) (by first | exact hl | simpa using hl)))
noncomputable def F_vdi : (SDs × Int × Int) → Bool
 | (d,now,virtual) => bif decide (d.1 < 0) then false else bif decide (d.1 ≥ 32) then false else bif decide ((↑(List.length d.2.2.2.2.2.2.2.2.2.2) : Int) > 16) then false else F_vdi_0 d.2.2.2.2.2.2.2.2.2.2 (now,virtual,d,d.2.2.2.2.2.2.2.2.2.2,(↑(List.length d.2.2.2.2.2.2.2.2.2.2) : Int),0)
noncomputable def P_vdi : (SDs × Int × Int) → Bool
 | (d,now,virtual) => bif decide (d.1 < 0) then true else bif decide (d.1 ≥ 32) then true else bif decide ((↑(List.length d.2.2.2.2.2.2.2.2.2.2) : Int) > 16) then true else decide (List.length d.2.2.2.2.2.2.2.2.2.2 ≤ 1099511627776) && P_vdi_0 d.2.2.2.2.2.2.2.2.2.2 (now,virtual,d,d.2.2.2.2.2.2.2.2.2.2,(↑(List.length d.2.2.2.2.2.2.2.2.2.2) : Int),0)
theorem vdi_auto : ∀ a : SDs × Int × Int,Rns (fun f => M_vdi f a) (P_vdi a) (F_vdi a)
 | (d,now,virtual) => ev_step (fun f => M_vdi_eq f _ _ _) (ev_bif ev_some (ev_bif ev_some (ev_bif ev_some (ev_and fun hh => A_vdi_0 _ _ _ _ _ _ _ rfl (by first | rfl | simp) (of_decide_eq_true hh)))))
theorem vdi_0 {n v : Int} (hr : rngB n v = true) (d : SDs) (x24 : List Int) (x25 : Int) : ∀ (r : List Int) (k : Nat),F_vdi_0 r (n,v,d,x24,x25,k) = (r.all (fun e => decide (0 < e)) && corB n v d) ∧ P_vdi_0 r (n,v,d,x24,x25,k) = true
 | [],k => by
  simp only [rngB,Bool.and_eq_true,decide_eq_true_eq] at hr
  obtain ⟨h1,h2,h3,h4⟩ := hr
  have e1 : IntKind.i64.wrap (v + 2520) = v + 2520 := i64_id (by omega) (by omega)
  refine ⟨?_,rfl⟩
  simp only [F_vdi_0,List.all_nil,Bool.true_and,corB,e1,beqD]
  cases hw : decide (d.2.1 = 0)
  ·simp only [Bool.not_false,cond_true,cond_false,beB,bif_af,hw,dId,dW,dPer,dBud,dBlk,dDis,dRem,dDl,dLft,dPas,ups]
   cases d.2.2.2.2.1 <;> rw [Bool.eq_iff_iff] <;> simp [Bool.and_assoc] <;> grind
  ·simp only [Bool.not_true,cond_true,cond_false,rtB,bif_af,dId,dW,dPer,dBud,dBlk,dDis,dRem,dDl,dLft,dPas,ups]
   cases hp : perB d.2.2.1
   ·simp
   ·have := perB_rng hp
    have e2 : IntKind.i64.wrap (n + d.2.2.1) = n + d.2.2.1 := i64_id (by omega) (by omega)
    rw [e2,len0i]
    cases d.2.2.2.2.2.2.1 <;> rw [Bool.eq_iff_iff] <;> simp <;> grind
 | u :: r,k => by
  obtain ⟨i1,i2⟩ := vdi_0 hr d x24 x25 r (k + 1)
  simp only [F_vdi_0,P_vdi_0,i1,i2,List.all_cons]
  by_cases h : u ≤ 0
  ·rw [decide_eq_true h,decide_eq_false (show ¬ 0 < u by omega)]; exact ⟨rfl,rfl⟩
  ·rw [decide_eq_false h,decide_eq_true (show 0 < u by omega)]; exact ⟨by simp,rfl⟩
theorem vdi_both : ∀ a : SDs × Int × Int,(fun a : SDs × Int × Int => rngB a.2.1 a.2.2) a = true → P_vdi a = true ∧ F_vdi a = vdiS a := by
 rintro ⟨d,n,v⟩ h
 have hr : rngB n v = true := h
 obtain ⟨i1,i2⟩ := vdi_0 hr d (ups d) (((ups d).length : Nat) : Int) (ups d) 0
 simp only [P_vdi,F_vdi,vdiS,upB,i1,i2]
 by_cases h1 : d.1 < 0
 ·rw [decide_eq_true h1,decide_eq_false (show ¬ 0 ≤ d.1 by omega)]; exact ⟨rfl,rfl⟩
 by_cases h2 : d.1 ≥ 32
 ·rw [decide_eq_false h1,decide_eq_true h2,decide_eq_false (show ¬ d.1 < 32 by omega)]
  exact ⟨rfl,by simp⟩
 by_cases h3 : (((ups d).length : Nat) : Int) > 16
 ·rw [decide_eq_false h1,decide_eq_false h2,decide_eq_true h3,decide_eq_false (show ¬ (ups d).length ≤ 16 by omega)]
  exact ⟨rfl,by simp⟩
 rw [decide_eq_false h1,decide_eq_false h2,decide_eq_false h3,decide_eq_true (show 0 ≤ d.1 by omega),decide_eq_true (show d.1 < 32 by omega),decide_eq_true (show (ups d).length ≤ 16 by omega),decide_eq_true (show (ups d).length ≤ 1099511627776 by omega)]
 exact ⟨rfl,by simp⟩
theorem vdi_P : ∀ a : SDs × Int × Int,(fun a : SDs × Int × Int => rngB a.2.1 a.2.2) a = true → P_vdi a = true := fun a h => (vdi_both a h).1
theorem vdi_F : ∀ a : SDs × Int × Int,(fun a : SDs × Int × Int => rngB a.2.1 a.2.2) a = true → F_vdi a = vdiS a := fun a h => (vdi_both a h).2
theorem vdi_run : ∀ a,(fun a : SDs × Int × Int => rngB a.2.1 a.2.2 : SDs × Int × Int → Bool) a = true → ∃ f,M_vdi f a = some ((vdiS : SDs × Int × Int → Bool) a) := fun a h => by have h1 := vdi_auto a (vdi_P a h); rw [vdi_F a h] at h1; exact h1
noncomputable def E_vdi : Ent := ⟨36,[.g tSDs,.c (.int .i64),.c (.int .i64)],[.v (.bool)],fun a => (fun a : SDs × Int × Int => rngB a.2.1 a.2.2 : SDs × Int × Int → Bool) a,fun a => (vdiS : SDs × Int × Int → Bool) a⟩
theorem E_vdi_ok : E_vdi.Ok Try.prog := fun a hp vs hv => (vdi_run a hp).elim fun f h => fnX_ok (C := C_vdi) (Lt := Lt_vdi) (fn := Try.f36) (rs := [.tmp 6]) [.g tSDs,.c (.int .i64),.c (.int .i64)] [.v (.bool)] mixed es_vdi Try.func36 rfl rfl rfl (by kernel_rfl) (by kernel_rfl) f h vs hv
noncomputable def C_rit : Cfg := ⟨Try.prog,[E_prm],pmT [],138,[],[],[],[]⟩
theorem es_rit : EsOk Try.prog [E_prm] [] [] := es_cons E_prm_ok (es_nil)
def Lt_rit : Nat → LD := ldT [(0,⟨[.box 2 2 26 3 tSSd,.box 3 3 53 11 tSDs,.c 5 (.int .i64)],[],0⟩)]
noncomputable def M_rit (f : Nat) (a : SSd × SDs) : Option (Bool) := (runX (C_rit) Lt_rit (Kret Try.prog [.tmp 4] [.v (.bool)]) f [.code (bodyOf Try.f50)] (initX [.g tSSd,.g tSDs] a) : Option (ResT [.v (.bool)]))
noncomputable def L_rit_0 (f : Nat) (x : SSd × SDs × Int) : Option (Bool) := (runX (C_rit) Lt_rit (Kret Try.prog [.tmp 4] [.v (.bool)]) f (headOf Try.f50 0) ((Lt_rit 0).mk' x) : Option (ResT [.v (.bool)]))
theorem M_rit_eq (f : Nat) (s : SSd) (d : SDs) : M_rit (f + 1) (s,d) =
  bif decide ((↑(List.length d.2.2.2.2.2.2.2.2.2.2) : Int) > 16) then some false else L_rit_0 f (s,d,0) := by kernel_rfl
theorem L_rit_0_eq (f : Nat) (s : SSd) (d : SDs) (i : Int) : L_rit_0 (f + 1) (s,d,i) =
  bif decide (i < (↑(List.length d.2.2.2.2.2.2.2.2.2.2) : Int)) then bif decide (0 ≤ i) && decide (i < (↑(List.length d.2.2.2.2.2.2.2.2.2.2) : Int)) then bif decide (List.getD d.2.2.2.2.2.2.2.2.2.2 i.toNat 0 ≤ 0) then some false else L_rit_0 f (s,d,IntKind.i64.wrap (i + 1)) else none else bif d.2.1 != 0 then bif decide (d.2.1 ≥ 1) then bif decide (d.2.1 ≤ 10) then bif d.2.2.1 == 0 then bif d.2.2.2.1 == 0 then bif d.2.2.2.2.2.2.2.1 == 0 then bif d.2.2.2.2.2.2.2.2.1 == 0 then bif !d.2.2.2.2.2.2.1 then bif decide (d.2.2.2.2.2.2.2.2.2.1 ≥ 0) then bif decide (d.2.2.2.2.2.2.2.2.2.1 ≤ IntKind.i64.wrap (s.2.1 + 2520)) then bif d.2.2.2.2.1 then some true else some (decide (d.2.2.2.2.2.2.2.2.2.1 ≥ s.2.1)) else some false else some false else some false else some false else some false else some false else some false else some false else some false else bif prmB (0,d.2.2.1,d.2.2.2.1) then bif d.2.2.2.2.2.2.2.2.2.1 == 0 then bif decide (d.2.2.2.2.2.2.2.1 > s.1) then bif decide (d.2.2.2.2.2.2.2.1 ≤ IntKind.i64.wrap (s.1 + d.2.2.1)) then bif decide (d.2.2.2.2.2.2.2.2.1 ≥ 0) then bif decide (d.2.2.2.2.2.2.2.2.1 ≤ d.2.2.2.1) then bif !d.2.2.2.2.2.2.1 then some true else bif !d.2.2.2.2.2.1 then some ((↑(List.length d.2.2.2.2.2.2.2.2.2.2) : Int) == 0) else some false else some false else some false else some false else some false else some false else some false := by kernel_rfl
noncomputable def F_rit_0 : List (Int) → (SSd × SDs × Nat) → Bool
 | [],(s,d,i) => bif d.2.1 != 0 then bif decide (d.2.1 ≥ 1) then bif decide (d.2.1 ≤ 10) then bif d.2.2.1 == 0 then bif d.2.2.2.1 == 0 then bif d.2.2.2.2.2.2.2.1 == 0 then bif d.2.2.2.2.2.2.2.2.1 == 0 then bif !d.2.2.2.2.2.2.1 then bif decide (d.2.2.2.2.2.2.2.2.2.1 ≥ 0) then bif decide (d.2.2.2.2.2.2.2.2.2.1 ≤ IntKind.i64.wrap (s.2.1 + 2520)) then bif d.2.2.2.2.1 then true else decide (d.2.2.2.2.2.2.2.2.2.1 ≥ s.2.1) else false else false else false else false else false else false else false else false else false else bif prmB (0,d.2.2.1,d.2.2.2.1) then bif d.2.2.2.2.2.2.2.2.2.1 == 0 then bif decide (d.2.2.2.2.2.2.2.1 > s.1) then bif decide (d.2.2.2.2.2.2.2.1 ≤ IntKind.i64.wrap (s.1 + d.2.2.1)) then bif decide (d.2.2.2.2.2.2.2.2.1 ≥ 0) then bif decide (d.2.2.2.2.2.2.2.2.1 ≤ d.2.2.2.1) then bif !d.2.2.2.2.2.2.1 then true else bif !d.2.2.2.2.2.1 then (↑(List.length d.2.2.2.2.2.2.2.2.2.2) : Int) == 0 else false else false else false else false else false else false else false
 | uu :: rest,(s,d,i) => bif decide (uu ≤ 0) then false else F_rit_0 rest (s,d,i + 1)
noncomputable def P_rit_0 : List (Int) → (SSd × SDs × Nat) → Bool
 | [],(s,d,i) => true
 | uu :: rest,(s,d,i) => bif decide (uu ≤ 0) then true else P_rit_0 rest (s,d,i + 1)
theorem A_rit_0 : ∀ (rest : List (Int)) (s : SSd) (d : SDs) (i : Nat) (hd : d.snd.snd.snd.snd.snd.snd.snd.snd.snd.snd.drop i = rest) (hl : d.snd.snd.snd.snd.snd.snd.snd.snd.snd.snd.length ≤ 1099511627776),Rns (fun f => L_rit_0 f (s,d,((i : Nat) : Int))) (P_rit_0 rest (s,d,i)) (F_rit_0 rest (s,d,i))
 | [],s,d,i,hd,hl => ev_step (T := fun f => bif d.2.1 != 0 then bif decide (d.2.1 ≥ 1) then bif decide (d.2.1 ≤ 10) then bif d.2.2.1 == 0 then bif d.2.2.2.1 == 0 then bif d.2.2.2.2.2.2.2.1 == 0 then bif d.2.2.2.2.2.2.2.2.1 == 0 then bif !d.2.2.2.2.2.2.1 then bif decide (d.2.2.2.2.2.2.2.2.2.1 ≥ 0) then bif decide (d.2.2.2.2.2.2.2.2.2.1 ≤ IntKind.i64.wrap (s.2.1 + 2520)) then bif d.2.2.2.2.1 then some true else some (decide (d.2.2.2.2.2.2.2.2.2.1 ≥ s.2.1)) else some false else some false else some false else some false else some false else some false else some false else some false else some false else bif prmB (0,d.2.2.1,d.2.2.2.1) then bif d.2.2.2.2.2.2.2.2.2.1 == 0 then bif decide (d.2.2.2.2.2.2.2.1 > s.1) then bif decide (d.2.2.2.2.2.2.2.1 ≤ IntKind.i64.wrap (s.1 + d.2.2.1)) then bif decide (d.2.2.2.2.2.2.2.2.1 ≥ 0) then bif decide (d.2.2.2.2.2.2.2.2.1 ≤ d.2.2.2.1) then bif !d.2.2.2.2.2.2.1 then some true else bif !d.2.2.2.2.2.1 then some ((↑(List.length d.2.2.2.2.2.2.2.2.2.2) : Int) == 0) else some false else some false else some false else some false else some false else some false else some false) (fun f => (L_rit_0_eq f _ _ _).trans (by simp only [ge_dec (drop_ge hd),ge0,Bool.and_self,Bool.true_and,cond_true,cond_false,List.length_set] <;> rfl)) (ev_bift (ev_bift (ev_bift (ev_bift (ev_bift (ev_bift (ev_bift (ev_bift (ev_bift (ev_bift (ev_bift ev_some ev_some) ev_some) ev_some) ev_some) ev_some) ev_some) ev_some) ev_some) ev_some) ev_some) (ev_bift (ev_bift (ev_bift (ev_bift (ev_bift (ev_bift (ev_bift ev_some (ev_bift ev_some ev_some)) ev_some) ev_some) ev_some) ev_some) ev_some) ev_some))
 | uu :: rest,s,d,i,hd,hl => ev_step (T := fun f => bif decide (uu ≤ 0) then some false else L_rit_0 f (s,d,(↑(i + 1) : Int))) (fun f => (L_rit_0_eq f _ _ _).trans (by simp only [lt_dec (drop_lt hd),drop_get hd,wrap_succ (drop_lt hd) hl,getD_set (drop_lt hd),ge0,Bool.and_self,Bool.true_and,cond_true,cond_false,List.length_set] <;> rfl)) (ev_bif ev_some (A_rit_0 rest _ _ _ (by first | exact drop_succ hd | exact drop_set hd | exact drop_setS (drop_set hd)) (by first | exact hl | simpa using hl)))
noncomputable def F_rit : (SSd × SDs) → Bool
 | (s,d) => bif decide ((↑(List.length d.2.2.2.2.2.2.2.2.2.2) : Int) > 16) then false else F_rit_0 d.2.2.2.2.2.2.2.2.2.2 (s,d,0)
noncomputable def P_rit : (SSd × SDs) → Bool
 | (s,d) => bif decide ((↑(List.length d.2.2.2.2.2.2.2.2.2.2) : Int) > 16) then true else decide (d.2.2.2.2.2.2.2.2.2.2.length ≤ 1099511627776) && P_rit_0 d.2.2.2.2.2.2.2.2.2.2 (s,d,0)
theorem rit_auto : ∀ a : SSd × SDs,Rns (fun f => M_rit f a) (P_rit a) (F_rit a)
 | (s,d) => ev_step (fun f => M_rit_eq f _ _) (ev_bif ev_some (ev_and fun hh => A_rit_0 _ _ _ _ rfl (of_decide_eq_true hh)))
theorem rit_0 (s : SSd) (hr : rngB s.1 s.2.1 = true) (d : SDs) : ∀ (r : List Int) (k : Nat),F_rit_0 r (s,d,k) = (r.all (fun e => decide (0 < e)) && corB s.1 s.2.1 d) ∧ P_rit_0 r (s,d,k) = true
 | [],k => by
  simp only [rngB,Bool.and_eq_true,decide_eq_true_eq] at hr
  obtain ⟨h1,h2,h3,h4⟩ := hr
  have e1 : IntKind.i64.wrap (s.2.1 + 2520) = s.2.1 + 2520 := i64_id (by omega) (by omega)
  refine ⟨?_,rfl⟩
  simp only [F_rit_0,List.all_nil,Bool.true_and,corB,e1,beqD,bneD]
  cases hw : decide (d.2.1 = 0)
  ·simp only [Bool.not_false,cond_true,cond_false,beB,bif_af,hw,dId,dW,dPer,dBud,dBlk,dDis,dRem,dDl,dLft,dPas,ups]
   cases d.2.2.2.2.1 <;> rw [Bool.eq_iff_iff] <;> simp [Bool.and_assoc] <;> grind
  ·simp only [Bool.not_true,cond_true,cond_false,rtB,bif_af,prmB,dId,dW,dPer,dBud,dBlk,dDis,dRem,dDl,dLft,dPas,ups]
   simp only [decide_true,Bool.not_true,cond_false]
   cases hp : perB d.2.2.1
   ·simp
   ·have := perB_rng hp
    have e2 : IntKind.i64.wrap (s.1 + d.2.2.1) = s.1 + d.2.2.1 := i64_id (by omega) (by omega)
    rw [e2,len0i]
    cases d.2.2.2.2.2.2.1 <;> rw [Bool.eq_iff_iff] <;> simp <;> grind
 | u :: r,k => by
  obtain ⟨i1,i2⟩ := rit_0 s hr d r (k + 1)
  simp only [F_rit_0,P_rit_0,i1,i2,List.all_cons]
  by_cases h : u ≤ 0
  ·rw [decide_eq_true h,decide_eq_false (show ¬ 0 < u by omega)]; exact ⟨rfl,rfl⟩
  ·rw [decide_eq_false h,decide_eq_true (show 0 < u by omega)]; exact ⟨by simp,rfl⟩
theorem rit_both : ∀ a : SSd × SDs,(fun a : SSd × SDs => rngB a.1.1 a.1.2.1) a = true → P_rit a = true ∧ F_rit a = ritS a := by
 rintro ⟨s,d⟩ h
 obtain ⟨i1,i2⟩ := rit_0 s h d (ups d) 0
 simp only [P_rit,F_rit,ritS,upB,i1,i2]
 by_cases h3 : (((ups d).length : Nat) : Int) > 16
 ·rw [decide_eq_true h3,decide_eq_false (show ¬ (ups d).length ≤ 16 by omega)]
  exact ⟨rfl,by simp⟩
 rw [decide_eq_false h3,decide_eq_true (show (ups d).length ≤ 16 by omega),decide_eq_true (show (ups d).length ≤ 1099511627776 by omega)]
 exact ⟨rfl,by simp⟩
theorem rit_P : ∀ a : SSd × SDs,(fun a : SSd × SDs => rngB a.1.1 a.1.2.1) a = true → P_rit a = true := fun a h => (rit_both a h).1
theorem rit_F : ∀ a : SSd × SDs,(fun a : SSd × SDs => rngB a.1.1 a.1.2.1) a = true → F_rit a = ritS a := fun a h => (rit_both a h).2
theorem rit_run : ∀ a,(fun a : SSd × SDs => rngB a.1.1 a.1.2.1 : SSd × SDs → Bool) a = true → ∃ f,M_rit f a = some ((ritS : SSd × SDs → Bool) a) := fun a h => by have h1 := rit_auto a (rit_P a h); rw [rit_F a h] at h1; exact h1
noncomputable def E_rit : Ent := ⟨50,[.g tSSd,.g tSDs],[.v (.bool)],fun a => (fun a : SSd × SDs => rngB a.1.1 a.1.2.1 : SSd × SDs → Bool) a,fun a => (ritS : SSd × SDs → Bool) a⟩
theorem E_rit_ok : E_rit.Ok Try.prog := fun a hp vs hv => (rit_run a hp).elim fun f h => fnX_ok (C := C_rit) (Lt := Lt_rit) (fn := Try.f50) (rs := [.tmp 4]) [.g tSSd,.g tSDs] [.v (.bool)] mixed es_rit Try.func50 rfl rfl rfl (by kernel_rfl) (by kernel_rfl) f h vs hv
def shD (d : SDs) : Int := bif decide (dW d = 0) then dBud d * (1024 / dPer d) else 0
def utS : List SDs → Int
 | [] => 0
 | d :: r => shD d + utS r
def rtOK (d : SDs) : Bool := !decide (dW d = 0) || (perB (dPer d) && (decide (dBud d ≥ 1) && decide (dBud d ≤ dPer d)))
theorem shD_rng {d : SDs} (h : rtOK d = true) : 0 ≤ shD d ∧ shD d ≤ 1024 := by
 unfold shD
 cases hw : decide (dW d = 0)
 ·exact ⟨by simp,by simp⟩
 ·simp only [rtOK,hw,Bool.not_true,Bool.false_or,Bool.and_eq_true,decide_eq_true_eq] at h
  obtain ⟨h1,h2,h3⟩ := h
  have hp := perB_rng h1
  have hq : 0 ≤ 1024 / dPer d := Int.ediv_nonneg (by omega) (by omega)
  have hm : 1024 / dPer d * dPer d ≤ 1024 := Int.ediv_mul_le 1024 (by omega)
  have h4 : dBud d * (1024 / dPer d) ≤ dPer d * (1024 / dPer d) := Int.mul_le_mul_of_nonneg_right h3 hq
  rw [Int.mul_comm (dPer d)] at h4
  rw [cond_true]
  exact ⟨Int.mul_nonneg (by omega) hq,by omega⟩
theorem sh_wrap {d : SDs} (h : rtOK d = true) (hw : decide (dW d = 0) = true) : dPer d ≠ 0 ∧ IntKind.i64.wrap (dBud d * IntKind.i64.wrap (Int.tdiv 1024 (dPer d))) = shD d := by
 have hr := shD_rng h
 have h' := h
 simp only [rtOK,hw,Bool.not_true,Bool.false_or,Bool.and_eq_true,decide_eq_true_eq] at h'
 obtain ⟨h1,h2,h3⟩ := h'
 have hp := perB_rng h1
 have hq : 0 ≤ 1024 / dPer d := Int.ediv_nonneg (by omega) (by omega)
 have hq2 : 1024 / dPer d ≤ 1024 := Int.ediv_le_self _ (by omega)
 refine ⟨by omega,?_⟩
 rw [Int.tdiv_eq_ediv_of_nonneg (by omega),i64_id (n := 1024 / dPer d) (by omega) (by omega)]
 unfold shD at hr ⊢
 rw [hw,cond_true] at hr ⊢
 exact i64_id (by omega) (by omega)
noncomputable def C_uti : Cfg := ⟨Try.prog,[E_irt,E_shr],pmT [],23,[],[],[],[]⟩
theorem es_uti : EsOk Try.prog [E_irt,E_shr] [] [] := es_cons E_irt_ok (es_cons E_shr_ok (es_nil))
def Lt_uti : Nat → LD := ldT [(0,⟨[.c 3 (.int .i64),.rd 6 tSDs,.c 7 (.int .i64),.c 8 (.int .i64)],[],0⟩)]
noncomputable def M_uti (f : Nat) (a : (List (SDs))) : Option (Int) := (runX (C_uti) Lt_uti (Kret Try.prog [.tmp 2] [.v (.int .i64)]) f [.code (bodyOf Try.f39)] (initX [.rd tSDs] a) : Option (ResT [.v (.int .i64)]))
noncomputable def L_uti_0 (f : Nat) (x : Int × (List (SDs)) × Int × Int) : Option (Int) := (runX (C_uti) Lt_uti (Kret Try.prog [.tmp 2] [.v (.int .i64)]) f (headOf Try.f39 0) ((Lt_uti 0).mk' x) : Option (ResT [.v (.int .i64)]))
theorem M_uti_eq (f : Nat) (l : List (SDs)) : M_uti (f + 1) l =
  L_uti_0 f (0,l,(↑l.length : Int),0) := by kernel_rfl
theorem L_uti_0_eq (f : Nat) (total : Int) (x6 : List (SDs)) (x7 : Int) (x8 : Int) : L_uti_0 (f + 1) (total,x6,x7,x8) =
  bif decide (x8 < x7) then bif decide (0 ≤ x8) && decide (x8 < (↑x6.length : Int)) then bif (x6.getD x8.toNat zQ).2.1 == 0 then bif (x6.getD x8.toNat zQ).2.2.1 != 0 then L_uti_0 f (IntKind.i64.wrap (total + IntKind.i64.wrap ((x6.getD x8.toNat zQ).2.2.2.1 * IntKind.i64.wrap (Int.tdiv 1024 (x6.getD x8.toNat zQ).2.2.1))),x6,x7,IntKind.i64.wrap (x8 + 1)) else none else L_uti_0 f (total,x6,x7,IntKind.i64.wrap (x8 + 1)) else none else some total := by kernel_rfl
noncomputable def F_uti_0 : List (SDs) → (Int × (List (SDs)) × Int × Nat) → Int
 | [],(total,x6,x7,x8) => total
 | uu :: rest,(total,x6,x7,x8) => bif uu.2.1 == 0 then F_uti_0 rest (IntKind.i64.wrap (total + IntKind.i64.wrap (uu.2.2.2.1 * IntKind.i64.wrap (Int.tdiv 1024 uu.2.2.1))),x6,x7,x8 + 1) else F_uti_0 rest (total,x6,x7,x8 + 1)
noncomputable def P_uti_0 : List (SDs) → (Int × (List (SDs)) × Int × Nat) → Bool
 | [],(total,x6,x7,x8) => true
 | uu :: rest,(total,x6,x7,x8) => bif uu.2.1 == 0 then uu.2.2.1 != 0 && P_uti_0 rest (IntKind.i64.wrap (total + IntKind.i64.wrap (uu.2.2.2.1 * IntKind.i64.wrap (Int.tdiv 1024 uu.2.2.1))),x6,x7,x8 + 1) else P_uti_0 rest (total,x6,x7,x8 + 1)
theorem A_uti_0 : ∀ (rest : List (SDs)) (total : Int) (x6 : List (SDs)) (x7 : Int) (x8 : Nat) (hd : x6.drop x8 = rest) (hn : x7 = ((x6.length : Nat) : Int)) (hl : x6.length ≤ 1099511627776),Rns (fun f => L_uti_0 f (total,x6,x7,((x8 : Nat) : Int))) (P_uti_0 rest (total,x6,x7,x8)) (F_uti_0 rest (total,x6,x7,x8))
 | [],total,x6,x7,x8,hd,hn,hl => ev_step (T := fun f => some total) (fun f => (L_uti_0_eq f _ _ _ _).trans (by simp only [ge_decn hn (drop_ge hd),ge0,Bool.and_self,Bool.true_and,cond_true,cond_false,List.length_set] <;> rfl)) ev_some
 | uu :: rest,total,x6,x7,x8,hd,hn,hl => ev_step (T := fun f => bif uu.2.1 == 0 then bif uu.2.2.1 != 0 then L_uti_0 f (IntKind.i64.wrap (total + IntKind.i64.wrap (uu.2.2.2.1 * IntKind.i64.wrap (Int.tdiv 1024 uu.2.2.1))),x6,x7,(↑(x8 + 1) : Int)) else none else L_uti_0 f (total,x6,x7,(↑(x8 + 1) : Int))) (fun f => (L_uti_0_eq f _ _ _ _).trans (by simp only [lt_decn hn (drop_lt hd),lt_dec (drop_lt hd),drop_get hd,wrap_succ (drop_lt hd) hl,getD_set (drop_lt hd),ge0,Bool.and_self,Bool.true_and,cond_true,cond_false,List.length_set] <;> rfl)) (ev_bif (ev_chk (A_uti_0 rest _ _ _ _ (by first | exact drop_succ hd | exact drop_set hd | exact drop_setS (drop_set hd)) (by first | exact hn | simpa using hn) (by first | exact hl | simpa using hl))) (A_uti_0 rest _ _ _ _ (by first | exact drop_succ hd | exact drop_set hd | exact drop_setS (drop_set hd)) (by first | exact hn | simpa using hn) (by first | exact hl | simpa using hl)))
noncomputable def F_uti : (List (SDs)) → Int
 | l => F_uti_0 l (0,l,(↑l.length : Int),0)
noncomputable def P_uti : (List (SDs)) → Bool
 | l => decide (l.length ≤ 1099511627776) && P_uti_0 l (0,l,(↑l.length : Int),0)
theorem uti_auto : ∀ a : (List (SDs)),Rns (fun f => M_uti f a) (P_uti a) (F_uti a)
 | l => ev_step (fun f => M_uti_eq f _) (ev_and fun hh => A_uti_0 _ _ _ _ _ rfl (by first | rfl | simp) (of_decide_eq_true hh))
theorem uti_0 (x6 : List SDs) (x7 : Int) : ∀ (r : List SDs) (t : Int) (k : Nat),(∀ d ∈ r,rtOK d = true) → r.length ≤ 1000 → 0 ≤ t → t + 1024 * ((r.length : Nat) : Int) ≤ 4000000 → F_uti_0 r (t,x6,x7,k) = t + utS r ∧ P_uti_0 r (t,x6,x7,k) = true
 | [],t,k,h,hl,h0,ht => ⟨by simp [F_uti_0,utS],rfl⟩
 | d :: r,t,k,h,hl,h0,ht => by
  simp only [List.length_cons] at hl ht
  have hd := h d (List.mem_cons_self ..)
  have hr := shD_rng hd
  cases hw : decide (d.2.1 = 0)
  ·obtain ⟨i1,i2⟩ := uti_0 x6 x7 r t (k + 1) (fun e he => h e (List.mem_cons_of_mem _ he)) (by omega) h0 (by omega)
   have e : shD d = 0 := by unfold shD; rw [hw]; rfl
   simp only [F_uti_0,P_uti_0,beqD,hw,i1,i2,utS,e]
   exact ⟨by simp,rfl⟩
  ·obtain ⟨hp,e⟩ := sh_wrap hd hw
   obtain ⟨i1,i2⟩ := uti_0 x6 x7 r (t + shD d) (k + 1) (fun e he => h e (List.mem_cons_of_mem _ he)) (by omega) (by omega) (by omega)
   have e2 : IntKind.i64.wrap (t + shD d) = t + shD d := i64_id (by omega) (by omega)
   have hp' : decide (d.2.2.1 = 0) = false := decide_eq_false hp
   simp only [F_uti_0,P_uti_0,beqD,bneD,hw,hp',e,e2,i1,i2,utS]
   exact ⟨by simp; omega,rfl⟩
def utPre (l : List SDs) : Bool := decide (l.length ≤ 1000) && l.all rtOK
theorem uti_both : ∀ l : List SDs,utPre l = true → P_uti l = true ∧ F_uti l = utS l := fun l h => by
 simp only [utPre,Bool.and_eq_true,decide_eq_true_eq,List.all_eq_true] at h
 obtain ⟨i1,i2⟩ := uti_0 l ((l.length : Nat) : Int) l 0 0 h.2 h.1 (by omega) (by omega)
 simp only [P_uti,F_uti,i1,i2,Int.zero_add,Bool.and_true]
 exact ⟨decide_eq_true (by omega),trivial⟩
theorem uti_P : ∀ l : List SDs,utPre l = true → P_uti l = true := fun l h => (uti_both l h).1
theorem uti_F : ∀ l : List SDs,utPre l = true → F_uti l = utS l := fun l h => (uti_both l h).2
theorem uti_run : ∀ a,(utPre : (List (SDs)) → Bool) a = true → ∃ f,M_uti f a = some ((utS : (List (SDs)) → Int) a) := fun a h => by have h1 := uti_auto a (uti_P a h); rw [uti_F a h] at h1; exact h1
noncomputable def E_uti : Ent := ⟨39,[.rd tSDs],[.v (.int .i64)],fun a => (utPre : (List (SDs)) → Bool) a,fun a => (utS : (List (SDs)) → Int) a⟩
theorem E_uti_ok : E_uti.Ok Try.prog := fun a hp vs hv => (uti_run a hp).elim fun f h => fnX_ok (C := C_uti) (Lt := Lt_uti) (fn := Try.f39) (rs := [.tmp 2]) [.rd tSDs] [.v (.int .i64)] mixed es_uti Try.func39 rfl rfl rfl (by kernel_rfl) (by kernel_rfl) f h vs hv
noncomputable def C_lod : Cfg := ⟨Try.prog,[],pmT [(7,([(0,[]),(1,[]),(2,[]),(3,[]),(4,[]),(5,[]),(6,[]),(7,[]),(8,[])],[(3,3),(21,28)]))],30,[],[],[],[]⟩
theorem es_lod : EsOk Try.prog [] [] [] := es_nil
def Lt_lod : Nat → LD := ldT [(0,⟨[.box 1 1 26 3 tSSd,.c 3 (.int .i64),.c 4 (.int .i64)],[],0⟩)]
noncomputable def M_lod (f : Nat) (a : SSd) : Option (Int) := (runX (C_lod) Lt_lod (Kret Try.prog [.tmp 2] [.v (.int .i64)]) f [.code (bodyOf Try.f49)] (initX [.g tSSd] a) : Option (ResT [.v (.int .i64)]))
noncomputable def L_lod_0 (f : Nat) (x : SSd × Int × Int) : Option (Int) := (runX (C_lod) Lt_lod (Kret Try.prog [.tmp 2] [.v (.int .i64)]) f (headOf Try.f49 0) ((Lt_lod 0).mk' x) : Option (ResT [.v (.int .i64)]))
theorem M_lod_eq (f : Nat) (s : SSd) : M_lod (f + 1) s =
  L_lod_0 f (s,0,0) := by kernel_rfl
theorem L_lod_0_eq (f : Nat) (s : SSd) (n : Int) (i : Int) : L_lod_0 (f + 1) (s,n,i) =
  bif decide (i < (↑(List.length s.2.2) : Int)) then bif decide (0 ≤ i) && decide (i < (↑(List.length s.2.2) : Int)) then bif (List.getD s.2.2 i.toNat zQ).2.1 == 0 then bif (List.getD s.2.2 i.toNat zQ).2.2.1 != 0 then L_lod_0 f (s,IntKind.i64.wrap (n + IntKind.i64.wrap ((List.getD s.2.2 i.toNat zQ).2.2.2.1 * IntKind.i64.wrap (Int.tdiv 1024 (List.getD s.2.2 i.toNat zQ).2.2.1))),IntKind.i64.wrap (i + 1)) else none else L_lod_0 f (s,n,IntKind.i64.wrap (i + 1)) else none else some n := by kernel_rfl
noncomputable def F_lod_0 : List (Int × Int × Int × Int × Bool × Bool × Bool × Int × Int × Int × (List (Int))) → (SSd × Int × Nat) → Int
 | [],(s,n,i) => n
 | uu :: rest,(s,n,i) => bif uu.2.1 == 0 then F_lod_0 rest (s,IntKind.i64.wrap (n + IntKind.i64.wrap (uu.2.2.2.1 * IntKind.i64.wrap (Int.tdiv 1024 uu.2.2.1))),i + 1) else F_lod_0 rest (s,n,i + 1)
noncomputable def P_lod_0 : List (Int × Int × Int × Int × Bool × Bool × Bool × Int × Int × Int × (List (Int))) → (SSd × Int × Nat) → Bool
 | [],(s,n,i) => true
 | uu :: rest,(s,n,i) => bif uu.2.1 == 0 then uu.2.2.1 != 0 && P_lod_0 rest (s,IntKind.i64.wrap (n + IntKind.i64.wrap (uu.2.2.2.1 * IntKind.i64.wrap (Int.tdiv 1024 uu.2.2.1))),i + 1) else P_lod_0 rest (s,n,i + 1)
theorem A_lod_0 : ∀ (rest : List (Int × Int × Int × Int × Bool × Bool × Bool × Int × Int × Int × (List (Int)))) (s : SSd) (n : Int) (i : Nat) (hd : s.snd.snd.drop i = rest) (hl : s.snd.snd.length ≤ 1099511627776),Rns (fun f => L_lod_0 f (s,n,((i : Nat) : Int))) (P_lod_0 rest (s,n,i)) (F_lod_0 rest (s,n,i))
 | [],s,n,i,hd,hl => ev_step (T := fun f => some n) (fun f => (L_lod_0_eq f _ _ _).trans (by simp only [ge_dec (drop_ge hd),ge0,Bool.and_self,Bool.true_and,cond_true,cond_false,List.length_set] <;> rfl)) ev_some
 | uu :: rest,s,n,i,hd,hl => ev_step (T := fun f => bif uu.2.1 == 0 then bif uu.2.2.1 != 0 then L_lod_0 f (s,IntKind.i64.wrap (n + IntKind.i64.wrap (uu.2.2.2.1 * IntKind.i64.wrap (Int.tdiv 1024 uu.2.2.1))),(↑(i + 1) : Int)) else none else L_lod_0 f (s,n,(↑(i + 1) : Int))) (fun f => (L_lod_0_eq f _ _ _).trans (by simp only [lt_dec (drop_lt hd),drop_get hd,wrap_succ (drop_lt hd) hl,getD_set (drop_lt hd),ge0,Bool.and_self,Bool.true_and,cond_true,cond_false,List.length_set] <;> rfl)) (ev_bif (ev_chk (A_lod_0 rest _ _ _ (by first | exact drop_succ hd | exact drop_set hd | exact drop_setS (drop_set hd)) (by first | exact hl | simpa using hl))) (A_lod_0 rest _ _ _ (by first | exact drop_succ hd | exact drop_set hd | exact drop_setS (drop_set hd)) (by first | exact hl | simpa using hl)))
noncomputable def F_lod : SSd → Int
 | s => F_lod_0 s.2.2 (s,0,0)
noncomputable def P_lod : SSd → Bool
 | s => decide (s.2.2.length ≤ 1099511627776) && P_lod_0 s.2.2 (s,0,0)
theorem lod_auto : ∀ a : SSd,Rns (fun f => M_lod f a) (P_lod a) (F_lod a)
 | s => ev_step (fun f => M_lod_eq f _) (ev_and fun hh => A_lod_0 _ _ _ _ rfl (of_decide_eq_true hh))
theorem lod_0 (s : SSd) : ∀ (r : List SDs) (t : Int) (k : Nat),(∀ d ∈ r,rtOK d = true) → r.length ≤ 1000 → 0 ≤ t → t + 1024 * ((r.length : Nat) : Int) ≤ 4000000 → F_lod_0 r (s,t,k) = t + utS r ∧ P_lod_0 r (s,t,k) = true
 | [],t,k,h,hl,h0,ht => ⟨by simp [F_lod_0,utS],rfl⟩
 | d :: r,t,k,h,hl,h0,ht => by
  simp only [List.length_cons] at hl ht
  have hd := h d (List.mem_cons_self ..)
  have hr := shD_rng hd
  cases hw : decide (d.2.1 = 0)
  ·obtain ⟨i1,i2⟩ := lod_0 s r t (k + 1) (fun e he => h e (List.mem_cons_of_mem _ he)) (by omega) h0 (by omega)
   have e : shD d = 0 := by unfold shD; rw [hw]; rfl
   simp only [F_lod_0,P_lod_0,beqD,hw,i1,i2,utS,e]
   exact ⟨by simp,rfl⟩
  ·obtain ⟨hp,e⟩ := sh_wrap hd hw
   obtain ⟨i1,i2⟩ := lod_0 s r (t + shD d) (k + 1) (fun e he => h e (List.mem_cons_of_mem _ he)) (by omega) (by omega) (by omega)
   have e2 : IntKind.i64.wrap (t + shD d) = t + shD d := i64_id (by omega) (by omega)
   have hp' : decide (d.2.2.1 = 0) = false := decide_eq_false hp
   simp only [F_lod_0,P_lod_0,beqD,bneD,hw,hp',e,e2,i1,i2,utS]
   exact ⟨by simp; omega,rfl⟩
theorem lod_both : ∀ s : SSd,(fun s : SSd => utPre s.2.2) s = true → P_lod s = true ∧ F_lod s = utS s.2.2 := fun s h => by
 simp only [utPre,Bool.and_eq_true,decide_eq_true_eq,List.all_eq_true] at h
 obtain ⟨i1,i2⟩ := lod_0 s s.2.2 0 0 h.2 h.1 (by omega) (by omega)
 simp only [P_lod,F_lod,i1,i2,Int.zero_add,Bool.and_true]
 exact ⟨decide_eq_true (by omega),trivial⟩
theorem lod_P : ∀ s : SSd,(fun s : SSd => utPre s.2.2) s = true → P_lod s = true := fun s h => (lod_both s h).1
theorem lod_F : ∀ s : SSd,(fun s : SSd => utPre s.2.2) s = true → F_lod s = (fun s : SSd => utS s.2.2) s := fun s h => (lod_both s h).2
theorem lod_run : ∀ a,(fun s : SSd => utPre s.2.2 : SSd → Bool) a = true → ∃ f,M_lod f a = some ((fun s : SSd => utS s.2.2 : SSd → Int) a) := fun a h => by have h1 := lod_auto a (lod_P a h); rw [lod_F a h] at h1; exact h1
noncomputable def E_lod : Ent := ⟨49,[.g tSSd],[.v (.int .i64)],fun a => (fun s : SSd => utPre s.2.2 : SSd → Bool) a,fun a => (fun s : SSd => utS s.2.2 : SSd → Int) a⟩
theorem E_lod_ok : E_lod.Ok Try.prog := fun a hp vs hv => (lod_run a hp).elim fun f h => fnX_ok (C := C_lod) (Lt := Lt_lod) (fn := Try.f49) (rs := [.tmp 2]) [.g tSSd] [.v (.int .i64)] mixed es_lod Try.func49 rfl rfl rfl (by kernel_rfl) (by kernel_rfl) f h vs hv
end Go.AL
namespace Go.AL
open Go.Proofs
def prvB (p : Option Int) (x : Int) : Bool := match p with
 | none => true
 | some y => decide (y < x)
def chkL (s : SSd) : Option Int → List SDs → Bool
 | _,[] => true
 | p,d :: r => vdiS (d,s.1,s.2.1) && (prvB p d.1 && chkL s (some d.1) r)
def valS (s : SSd) : Bool := rngB s.1 s.2.1 && (decide (s.2.2.length ≤ 32) && (chkL s none s.2.2 && decide (utS s.2.2 ≤ 1024)))
theorem vdi_rt {d : SDs} {n v : Int} (h : vdiS (d,n,v) = true) : rtOK d = true := by
 simp only [vdiS,Bool.and_eq_true] at h
 have h := h.2.2.2
 unfold corB at h
 unfold rtOK
 cases hw : decide (dW d = 0)
 ·rfl
 ·rw [hw,cond_true] at h
  simp only [rtB,Bool.and_eq_true] at h
  simp only [Bool.not_true,Bool.false_or,Bool.and_eq_true]
  exact ⟨h.2.1,h.2.2.1,h.2.2.2.1⟩
theorem chkL_iff (s : SSd) : ∀ (r : List SDs) (p : Option Int),chkL s p r = true ↔ (∀ d ∈ r,vdiS (d,s.1,s.2.1) = true ∧ prvB p d.1 = true) ∧ r.Pairwise (fun a b => a.1 < b.1)
 | [],p => by simp [chkL]
 | d :: r,p => by
  have i := chkL_iff s r (some d.1)
  simp only [chkL,Bool.and_eq_true,i,List.mem_cons,forall_eq_or_imp,List.pairwise_cons]
  constructor
  ·rintro ⟨h1,h2,h3,h4⟩
   refine ⟨⟨⟨h1,h2⟩,fun e he => ⟨(h3 e he).1,?_⟩⟩,fun e he => of_decide_eq_true (h3 e he).2,h4⟩
   have h5 : d.1 < e.1 := of_decide_eq_true (h3 e he).2
   cases p with
   | none => rfl
   | some y =>
    have h6 : y < d.1 := of_decide_eq_true h2
    exact decide_eq_true (by omega)
  ·rintro ⟨⟨⟨h1,h2⟩,h3⟩,h4,h5⟩
   exact ⟨h1,h2,fun e he => ⟨(h3 e he).1,decide_eq_true (h4 e he)⟩,h5⟩
theorem ut_all {s : SSd} (hl : s.2.2.length ≤ 32) (h : ∀ d ∈ s.2.2,vdiS (d,s.1,s.2.1) = true) : utPre s.2.2 = true := by
 unfold utPre
 rw [Bool.and_eq_true]
 exact ⟨decide_eq_true (by omega),List.all_eq_true.2 fun d hd => vdi_rt (h d hd)⟩
def prv (s : SSd) (k : Nat) : Option Int := match k with
 | 0 => none
 | j + 1 => some (s.2.2.getD j zDs).1
theorem take_all {s : SSd} {k : Nat} {u : SDs} {r : List SDs} (h : s.2.2.drop k = u :: r) (hp : ∀ d ∈ s.2.2.take k,vdiS (d,s.1,s.2.1) = true) (hu : vdiS (u,s.1,s.2.1) = true) : ∀ d ∈ s.2.2.take (k + 1),vdiS (d,s.1,s.2.1) = true := fun d hd => by
 obtain ⟨h1,h2,h3⟩ := drop_get2 zDs h
 rw [List.take_add_one,List.getElem?_eq_getElem h1] at hd
 rcases List.mem_append.1 hd with hd | hd
 ·exact hp d hd
 ·rw [List.getD_eq_getElem?_getD,List.getElem?_eq_getElem h1] at h2
  have h2 : s.2.2[k] = u := h2
  rw [h2] at hd
  have : d = u := by simpa using hd
  rw [this]; exact hu
theorem iwk {j : Nat} (h : j ≤ 100) : IntKind.i64.wrap (((j + 1 : Nat) : Int) - 1) = ((j : Nat) : Int) := by rw [i64_id (by omega) (by omega)]; omega
noncomputable def C_val : Cfg := ⟨Try.prog,[E_vdi,E_uti],pmT [(6,([(0,[]),(1,[]),(2,[]),(3,[]),(4,[]),(5,[]),(6,[]),(7,[]),(8,[]),(9,[]),(10,[]),(11,[]),(12,[]),(13,[]),(14,[]),(15,[]),(16,[]),(17,[]),(18,[]),(19,[]),(20,[]),(21,[]),(22,[])],[(37,59)]))],65,[],[],[],[]⟩
theorem es_val : EsOk Try.prog [E_vdi,E_uti] [] [] := es_cons E_vdi_ok (es_cons E_uti_ok (es_nil))
def Lt_val : Nat → LD := ldT [(0,⟨[.box 1 1 26 3 tSSd,.c 30 (.sl tSDs),.c 31 (.int .i64),.c 32 (.int .i64)],[],0⟩)]
noncomputable def M_val (f : Nat) (a : SSd) : Option (Bool) := (runX (C_val) Lt_val (Kret Try.prog [.tmp 2] [.v (.bool)]) f [.code (bodyOf Try.f20)] (initX [.g tSSd] a) : Option (ResT [.v (.bool)]))
noncomputable def L_val_0 (f : Nat) (x : SSd × (List (SDs)) × Int × Int) : Option (Bool) := (runX (C_val) Lt_val (Kret Try.prog [.tmp 2] [.v (.bool)]) f (headOf Try.f20 0) ((Lt_val 0).mk' x) : Option (ResT [.v (.bool)]))
theorem M_val_eq (f : Nat) (s : SSd) : M_val (f + 1) s =
  bif decide (s.1 < 0) then some false else bif decide (s.1 > 1099511627776) then some false else bif decide (s.2.1 < 0) then some false else bif decide (s.2.1 > 1125899906842624) then some false else bif decide ((↑(List.length s.2.2) : Int) > 32) then some false else L_val_0 f (s,s.2.2,(↑(List.length s.2.2) : Int),0) := by kernel_rfl
theorem L_val_0_eq (f : Nat) (s : SSd) (x30 : List (SDs)) (x31 : Int) (x32 : Int) : L_val_0 (f + 1) (s,x30,x31,x32) =
  bif decide (x32 < x31) then bif decide (0 ≤ x32) && decide (x32 < (↑x30.length : Int)) then bif rngB s.1 s.2.1 then bif !vdiS (x30.getD x32.toNat zQ,s.1,s.2.1) then some false else bif decide (x32 > 0) then bif decide (0 ≤ IntKind.i64.wrap (x32 - 1)) && decide (IntKind.i64.wrap (x32 - 1) < (↑(List.length s.2.2) : Int)) then bif decide ((List.getD s.2.2 (IntKind.i64.wrap (x32 - 1)).toNat zQ).1 ≥ (x30.getD x32.toNat zQ).1) then some false else L_val_0 f (s,x30,x31,IntKind.i64.wrap (x32 + 1)) else none else L_val_0 f (s,x30,x31,IntKind.i64.wrap (x32 + 1)) else none else none else bif utPre s.2.2 then some (decide (utS s.2.2 ≤ 1024)) else none := by kernel_rfl
noncomputable def F_val_0 : List (SDs) → (SSd × (List (SDs)) × Int × Nat) → Bool
 | [],(s,x30,x31,x32) => decide (utS s.2.2 ≤ 1024)
 | uu :: rest,(s,x30,x31,x32) => bif !vdiS (uu,s.1,s.2.1) then false else bif decide ((↑x32 : Int) > 0) then bif decide ((List.getD s.2.2 (IntKind.i64.wrap ((↑x32 : Int) - 1)).toNat zQ).1 ≥ uu.1) then false else F_val_0 rest (s,x30,x31,x32 + 1) else F_val_0 rest (s,x30,x31,x32 + 1)
noncomputable def P_val_0 : List (SDs) → (SSd × (List (SDs)) × Int × Nat) → Bool
 | [],(s,x30,x31,x32) => utPre s.2.2
 | uu :: rest,(s,x30,x31,x32) => rngB s.1 s.2.1 && bif !vdiS (uu,s.1,s.2.1) then true else bif decide ((↑x32 : Int) > 0) then decide (0 ≤ IntKind.i64.wrap ((↑x32 : Int) - 1)) && decide (IntKind.i64.wrap ((↑x32 : Int) - 1) < (↑(List.length s.2.2) : Int)) && bif decide ((List.getD s.2.2 (IntKind.i64.wrap ((↑x32 : Int) - 1)).toNat zQ).1 ≥ uu.1) then true else P_val_0 rest (s,x30,x31,x32 + 1) else P_val_0 rest (s,x30,x31,x32 + 1)
theorem A_val_0 : ∀ (rest : List (SDs)) (s : SSd) (x30 : List (SDs)) (x31 : Int) (x32 : Nat) (hd : x30.drop x32 = rest) (hn : x31 = ((x30.length : Nat) : Int)) (hl : x30.length ≤ 1099511627776),Rns (fun f => L_val_0 f (s,x30,x31,((x32 : Nat) : Int))) (P_val_0 rest (s,x30,x31,x32)) (F_val_0 rest (s,x30,x31,x32))
 | [],s,x30,x31,x32,hd,hn,hl => ev_step (T := fun f => bif utPre s.2.2 then some (decide (utS s.2.2 ≤ 1024)) else none) (fun f => (L_val_0_eq f _ _ _ _).trans (by simp only [ge_decn hn (drop_ge hd),ge0,Bool.and_self,Bool.true_and,cond_true,cond_false,List.length_set] <;> rfl)) (ev_chk1 ev_some)
 | uu :: rest,s,x30,x31,x32,hd,hn,hl => ev_step (T := fun f => bif rngB s.1 s.2.1 then bif !vdiS (uu,s.1,s.2.1) then some false else bif decide ((↑x32 : Int) > 0) then bif decide (0 ≤ IntKind.i64.wrap ((↑x32 : Int) - 1)) && decide (IntKind.i64.wrap ((↑x32 : Int) - 1) < (↑(List.length s.2.2) : Int)) then bif decide ((List.getD s.2.2 (IntKind.i64.wrap ((↑x32 : Int) - 1)).toNat zQ).1 ≥ uu.1) then some false else L_val_0 f (s,x30,x31,(↑(x32 + 1) : Int)) else none else L_val_0 f (s,x30,x31,(↑(x32 + 1) : Int)) else none) (fun f => (L_val_0_eq f _ _ _ _).trans (by simp only [lt_decn hn (drop_lt hd),lt_dec (drop_lt hd),drop_get hd,wrap_succ (drop_lt hd) hl,getD_set (drop_lt hd),ge0,Bool.and_self,Bool.true_and,cond_true,cond_false,List.length_set] <;> rfl)) (ev_chk (ev_bif ev_some (ev_bif (ev_chk (ev_bif ev_some (A_val_0 rest _ _ _ _ (by first | exact drop_succ hd | exact drop_set hd | exact drop_setS (drop_set hd)) (by first | exact hn | simpa using hn) (by first | exact hl | simpa using hl)))) (A_val_0 rest _ _ _ _ (by first | exact drop_succ hd | exact drop_set hd | exact drop_setS (drop_set hd)) (by first | exact hn | simpa using hn) (by first | exact hl | simpa using hl)))))
noncomputable def F_val : SSd → Bool
 | s => bif decide (s.1 < 0) then false else bif decide (s.1 > 1099511627776) then false else bif decide (s.2.1 < 0) then false else bif decide (s.2.1 > 1125899906842624) then false else bif decide ((↑(List.length s.2.2) : Int) > 32) then false else F_val_0 s.2.2 (s,s.2.2,(↑(List.length s.2.2) : Int),0)
noncomputable def P_val : SSd → Bool
 | s => bif decide (s.1 < 0) then true else bif decide (s.1 > 1099511627776) then true else bif decide (s.2.1 < 0) then true else bif decide (s.2.1 > 1125899906842624) then true else bif decide ((↑(List.length s.2.2) : Int) > 32) then true else decide (List.length s.2.2 ≤ 1099511627776) && P_val_0 s.2.2 (s,s.2.2,(↑(List.length s.2.2) : Int),0)
theorem val_auto : ∀ a : SSd,Rns (fun f => M_val f a) (P_val a) (F_val a)
 | s => ev_step (fun f => M_val_eq f _) (ev_bif ev_some (ev_bif ev_some (ev_bif ev_some (ev_bif ev_some (ev_bif ev_some (ev_and fun hh => A_val_0 _ _ _ _ _ rfl (by first | rfl | simp) (of_decide_eq_true hh)))))))
theorem val_0 {s : SSd} (hl : s.2.2.length ≤ 32) (hr : rngB s.1 s.2.1 = true) (x30 : List SDs) (x31 : Int) : ∀ (r : List SDs) (k : Nat),s.2.2.drop k = r → (∀ d ∈ s.2.2.take k,vdiS (d,s.1,s.2.1) = true) → F_val_0 r (s,x30,x31,k) = (chkL s (prv s k) r && decide (utS s.2.2 ≤ 1024)) ∧ P_val_0 r (s,x30,x31,k) = true
 | [],k,h,hp => by
  have hk : s.2.2.length ≤ k := List.drop_eq_nil_iff.1 h
  rw [List.take_of_length_le hk] at hp
  exact ⟨rfl,ut_all hl hp⟩
 | u :: r,k,h,hp => by
  obtain ⟨h1,h2,h3⟩ := drop_get2 zDs h
  cases hv : vdiS (u,s.1,s.2.1)
  ·simp only [F_val_0,P_val_0,hv,hr,chkL]; exact ⟨rfl,rfl⟩
  ·obtain ⟨i1,i2⟩ := val_0 hl hr x30 x31 r (k + 1) h3 (take_all h hp hv)
   have e0 : prv s (k + 1) = some u.1 := by show some _ = _; rw [h2]
   rw [e0] at i1
   cases k with
   | zero =>
    simp only [F_val_0,P_val_0,hv,hr,chkL,i1,i2]
    exact ⟨rfl,rfl⟩
   | succ j =>
    have e1 := iwk (j := j) (by omega)
    have e2 : decide (((j + 1 : Nat) : Int) > 0) = true := decide_eq_true (by omega)
    have e3 : decide ((0 : Int) ≤ ((j : Nat) : Int)) = true := decide_eq_true (by omega)
    have e4 : decide (((j : Nat) : Int) < ((List.length s.2.2 : Nat) : Int)) = true := decide_eq_true (by omega)
    have e5 : prvB (prv s (j + 1)) u.1 = !decide ((s.2.2.getD j zDs).1 ≥ u.1) := by
     show decide ((s.2.2.getD j zDs).1 < u.1) = _
     by_cases h : (s.2.2.getD j zDs).1 < u.1
     ·rw [decide_eq_true h,decide_eq_false (by omega)]; rfl
     ·rw [decide_eq_false h,decide_eq_true (by omega)]; rfl
    simp only [F_val_0,P_val_0,hv,hr,chkL,i1,i2,e1,e2,e3,e4,e5,Int.toNat_natCast]
    show (bif !true then false else bif true then bif decide ((s.2.2.getD j zDs).1 ≥ u.1) then false else _ else _) = _ ∧ (true && bif !true then true else bif true then true && true && bif decide ((s.2.2.getD j zDs).1 ≥ u.1) then true else true else true) = true
    cases decide ((s.2.2.getD j zDs).1 ≥ u.1) <;> exact ⟨rfl,rfl⟩
theorem rng_cases (n v : Int) : rngB n v = (!decide (n < 0) && (!decide (n > 1099511627776) && (!decide (v < 0) && !decide (v > 1125899906842624)))) := by
 rw [Bool.eq_iff_iff]; simp only [rngB,Bool.and_eq_true,decide_eq_true_eq,Bool.not_eq_true',decide_eq_false_iff_not]; omega
theorem bif_nn {c x : Bool} : (bif c then false else x) = (!c && x) := by cases c <;> rfl
theorem bif_nu {c x : Bool} (h : c = false → x = true) : (bif c then true else x) = true := by
 cases c
 ·exact h rfl
 ·rfl
theorem val_both : ∀ s : SSd,(fun _ => true) s = true → P_val s = true ∧ F_val s = valS s := fun s _ => by
 have ez := rng_cases s.1 s.2.1
 simp only [P_val,F_val,valS,bif_nn]
 rw [ez]
 constructor
 ·refine bif_nu fun a1 => bif_nu fun a2 => bif_nu fun a3 => bif_nu fun a4 => bif_nu fun a5 => ?_
  have hl : s.2.2.length ≤ 32 := by have := of_decide_eq_false a5; omega
  have hr : rngB s.1 s.2.1 = true := by rw [ez,a1,a2,a3,a4]; rfl
  rw [(val_0 hl hr _ _ s.2.2 0 rfl (by simp)).2,decide_eq_true (by omega)]; rfl
 ·cases a1 : decide (s.1 < 0)
  case true => rfl
  cases a2 : decide (s.1 > 1099511627776)
  case true => rfl
  cases a3 : decide (s.2.1 < 0)
  case true => rfl
  cases a4 : decide (s.2.1 > 1125899906842624)
  case true => rfl
  have hr : rngB s.1 s.2.1 = true := by rw [ez,a1,a2,a3,a4]; rfl
  by_cases hl : s.2.2.length ≤ 32
  ·rw [(val_0 hl hr _ _ s.2.2 0 rfl (by simp)).1,decide_eq_true hl,decide_eq_false (show ¬ ((List.length s.2.2 : Nat) : Int) > 32 by omega)]; rfl
  ·rw [decide_eq_false hl,decide_eq_true (show ((List.length s.2.2 : Nat) : Int) > 32 by omega)]; rfl
theorem val_P : ∀ s : SSd,(fun _ => true) s = true → P_val s = true := fun s h => (val_both s h).1
theorem val_F : ∀ s : SSd,(fun _ => true) s = true → F_val s = valS s := fun s h => (val_both s h).2
theorem val_run : ∀ a,(fun _ => true : SSd → Bool) a = true → ∃ f,M_val f a = some ((valS : SSd → Bool) a) := fun a h => by have h1 := val_auto a (val_P a h); rw [val_F a h] at h1; exact h1
noncomputable def E_val : Ent := ⟨20,[.g tSSd],[.v (.bool)],fun a => (fun _ => true : SSd → Bool) a,fun a => (valS : SSd → Bool) a⟩
theorem E_val_ok : E_val.Ok Try.prog := fun a hp vs hv => (val_run a hp).elim fun f h => fnX_ok (C := C_val) (Lt := Lt_val) (fn := Try.f20) (rs := [.tmp 2]) [.g tSSd] [.v (.bool)] mixed es_val Try.func20 rfl rfl rfl (by kernel_rfl) (by kernel_rfl) f h vs hv
noncomputable def C_rva : Cfg := ⟨Try.prog,[E_rit,E_lod],pmT [(7,([(0,[]),(1,[]),(2,[]),(3,[]),(4,[]),(5,[]),(6,[]),(7,[]),(8,[]),(9,[]),(10,[]),(11,[]),(12,[]),(13,[]),(14,[]),(15,[]),(16,[]),(17,[]),(18,[]),(19,[]),(20,[]),(21,[]),(22,[]),(23,[]),(24,[]),(25,[]),(26,[]),(27,[]),(28,[]),(29,[])],[(41,70)]))],74,[],[],[],[]⟩
theorem es_rva : EsOk Try.prog [E_rit,E_lod] [] [] := es_cons E_rit_ok (es_cons E_lod_ok (es_nil))
def Lt_rva : Nat → LD := ldT [(0,⟨[.box 1 1 26 3 tSSd,.c 3 (.int .i64)],[],0⟩)]
noncomputable def M_rva (f : Nat) (a : SSd) : Option (Bool) := (runX (C_rva) Lt_rva (Kret Try.prog [.tmp 2] [.v (.bool)]) f [.code (bodyOf Try.f21)] (initX [.g tSSd] a) : Option (ResT [.v (.bool)]))
noncomputable def L_rva_0 (f : Nat) (x : SSd × Int) : Option (Bool) := (runX (C_rva) Lt_rva (Kret Try.prog [.tmp 2] [.v (.bool)]) f (headOf Try.f21 0) ((Lt_rva 0).mk' x) : Option (ResT [.v (.bool)]))
theorem M_rva_eq (f : Nat) (s : SSd) : M_rva (f + 1) s =
  bif decide (s.1 < 0) then some false else bif decide (s.1 > 1099511627776) then some false else bif decide (s.2.1 < 0) then some false else bif decide (s.2.1 > 1125899906842624) then some false else bif decide ((↑(List.length s.2.2) : Int) > 32) then some false else L_rva_0 f (s,0) := by kernel_rfl
theorem L_rva_0_eq (f : Nat) (s : SSd) (i : Int) : L_rva_0 (f + 1) (s,i) =
  bif decide (i < (↑(List.length s.2.2) : Int)) then bif decide (0 ≤ i) && decide (i < (↑(List.length s.2.2) : Int)) then bif decide ((List.getD s.2.2 i.toNat zQ).1 < 0) then some false else bif decide ((List.getD s.2.2 i.toNat zQ).1 ≥ 32) then some false else bif decide (i > 0) then bif decide (0 ≤ IntKind.i64.wrap (i - 1)) && decide (IntKind.i64.wrap (i - 1) < (↑(List.length s.2.2) : Int)) then bif decide ((List.getD s.2.2 i.toNat zQ).1 ≤ (List.getD s.2.2 (IntKind.i64.wrap (i - 1)).toNat zQ).1) then some false else bif rngB s.1 s.2.1 then bif !ritS (s,List.getD s.2.2 i.toNat zQ) then some false else L_rva_0 f (s,IntKind.i64.wrap (i + 1)) else none else none else bif rngB s.1 s.2.1 then bif !ritS (s,List.getD s.2.2 i.toNat zQ) then some false else L_rva_0 f (s,IntKind.i64.wrap (i + 1)) else none else none else bif utPre s.2.2 then some (decide (utS s.2.2 ≤ 1024)) else none := by kernel_rfl
noncomputable def F_rva_0 : List (Int × Int × Int × Int × Bool × Bool × Bool × Int × Int × Int × (List (Int))) → (SSd × Nat) → Bool
 | [],(s,i) => decide (utS s.2.2 ≤ 1024)
 | uu :: rest,(s,i) => bif decide (uu.1 < 0) then false else bif decide (uu.1 ≥ 32) then false else bif decide ((↑i : Int) > 0) then bif decide (uu.1 ≤ (List.getD s.2.2 (IntKind.i64.wrap ((↑i : Int) - 1)).toNat zQ).1) then false else bif !ritS (s,uu) then false else F_rva_0 rest (s,i + 1) else bif !ritS (s,uu) then false else F_rva_0 rest (s,i + 1)
noncomputable def P_rva_0 : List (Int × Int × Int × Int × Bool × Bool × Bool × Int × Int × Int × (List (Int))) → (SSd × Nat) → Bool
 | [],(s,i) => utPre s.2.2
 | uu :: rest,(s,i) => bif decide (uu.1 < 0) then true else bif decide (uu.1 ≥ 32) then true else bif decide ((↑i : Int) > 0) then decide (0 ≤ IntKind.i64.wrap ((↑i : Int) - 1)) && decide (IntKind.i64.wrap ((↑i : Int) - 1) < (↑(List.length s.2.2) : Int)) && bif decide (uu.1 ≤ (List.getD s.2.2 (IntKind.i64.wrap ((↑i : Int) - 1)).toNat zQ).1) then true else rngB s.1 s.2.1 && bif !ritS (s,uu) then true else P_rva_0 rest (s,i + 1) else rngB s.1 s.2.1 && bif !ritS (s,uu) then true else P_rva_0 rest (s,i + 1)
theorem A_rva_0 : ∀ (rest : List (Int × Int × Int × Int × Bool × Bool × Bool × Int × Int × Int × (List (Int)))) (s : SSd) (i : Nat) (hd : s.snd.snd.drop i = rest) (hl : s.snd.snd.length ≤ 1099511627776),Rns (fun f => L_rva_0 f (s,((i : Nat) : Int))) (P_rva_0 rest (s,i)) (F_rva_0 rest (s,i))
 | [],s,i,hd,hl => ev_step (T := fun f => bif utPre s.2.2 then some (decide (utS s.2.2 ≤ 1024)) else none) (fun f => (L_rva_0_eq f _ _).trans (by simp only [ge_dec (drop_ge hd),ge0,Bool.and_self,Bool.true_and,cond_true,cond_false,List.length_set] <;> rfl)) (ev_chk1 ev_some)
 | uu :: rest,s,i,hd,hl => ev_step (T := fun f => bif decide (uu.1 < 0) then some false else bif decide (uu.1 ≥ 32) then some false else bif decide ((↑i : Int) > 0) then bif decide (0 ≤ IntKind.i64.wrap ((↑i : Int) - 1)) && decide (IntKind.i64.wrap ((↑i : Int) - 1) < (↑(List.length s.2.2) : Int)) then bif decide (uu.1 ≤ (List.getD s.2.2 (IntKind.i64.wrap ((↑i : Int) - 1)).toNat zQ).1) then some false else bif rngB s.1 s.2.1 then bif !ritS (s,uu) then some false else L_rva_0 f (s,(↑(i + 1) : Int)) else none else none else bif rngB s.1 s.2.1 then bif !ritS (s,uu) then some false else L_rva_0 f (s,(↑(i + 1) : Int)) else none) (fun f => (L_rva_0_eq f _ _).trans (by simp only [lt_dec (drop_lt hd),drop_get hd,wrap_succ (drop_lt hd) hl,getD_set (drop_lt hd),ge0,Bool.and_self,Bool.true_and,cond_true,cond_false,List.length_set] <;> rfl)) (ev_bif ev_some (ev_bif ev_some (ev_bif (ev_chk (ev_bif ev_some (ev_chk (ev_bif ev_some (A_rva_0 rest _ _ (by first | exact drop_succ hd | exact drop_set hd | exact drop_setS (drop_set hd)) (by first | exact hl | simpa using hl)))))) (ev_chk (ev_bif ev_some (A_rva_0 rest _ _ (by first | exact drop_succ hd | exact drop_set hd | exact drop_setS (drop_set hd)) (by first | exact hl | simpa using hl)))))))
noncomputable def F_rva : SSd → Bool
 | s => bif decide (s.1 < 0) then false else bif decide (s.1 > 1099511627776) then false else bif decide (s.2.1 < 0) then false else bif decide (s.2.1 > 1125899906842624) then false else bif decide ((↑(List.length s.2.2) : Int) > 32) then false else F_rva_0 s.2.2 (s,0)
noncomputable def P_rva : SSd → Bool
 | s => bif decide (s.1 < 0) then true else bif decide (s.1 > 1099511627776) then true else bif decide (s.2.1 < 0) then true else bif decide (s.2.1 > 1125899906842624) then true else bif decide ((↑(List.length s.2.2) : Int) > 32) then true else decide (s.2.2.length ≤ 1099511627776) && P_rva_0 s.2.2 (s,0)
theorem rva_auto : ∀ a : SSd,Rns (fun f => M_rva f a) (P_rva a) (F_rva a)
 | s => ev_step (fun f => M_rva_eq f _) (ev_bif ev_some (ev_bif ev_some (ev_bif ev_some (ev_bif ev_some (ev_bif ev_some (ev_and fun hh => A_rva_0 _ _ _ rfl (of_decide_eq_true hh)))))))
theorem vdi_rit (s : SSd) (d : SDs) : vdiS (d,s.1,s.2.1) = (!decide (d.1 < 0) && (!decide (d.1 ≥ 32) && ritS (s,d))) := by
 have e1 : decide (0 ≤ d.1) = !decide (d.1 < 0) := by
  by_cases h : d.1 < 0
  ·rw [decide_eq_true h,decide_eq_false (by omega)]; rfl
  ·rw [decide_eq_false h,decide_eq_true (by omega)]; rfl
 have e2 : decide (d.1 < 32) = !decide (d.1 ≥ 32) := by
  by_cases h : d.1 < 32
  ·rw [decide_eq_true h,decide_eq_false (by omega)]; rfl
  ·rw [decide_eq_false h,decide_eq_true (by omega)]; rfl
 show (decide (0 ≤ d.1) && (decide (d.1 < 32) && ritS (s,d))) = _
 rw [e1,e2]
theorem rva_0 {s : SSd} (hl : s.2.2.length ≤ 32) (hr : rngB s.1 s.2.1 = true) : ∀ (r : List SDs) (k : Nat),s.2.2.drop k = r → (∀ d ∈ s.2.2.take k,vdiS (d,s.1,s.2.1) = true) → F_rva_0 r (s,k) = (chkL s (prv s k) r && decide (utS s.2.2 ≤ 1024)) ∧ P_rva_0 r (s,k) = true
 | [],k,h,hp => by
  have hk : s.2.2.length ≤ k := List.drop_eq_nil_iff.1 h
  rw [List.take_of_length_le hk] at hp
  exact ⟨rfl,ut_all hl hp⟩
 | u :: r,k,h,hp => by
  obtain ⟨h1,h2,h3⟩ := drop_get2 zDs h
  have ev := vdi_rit s u
  cases a1 : decide (u.1 < 0)
  case true => rw [a1] at ev; simp only [F_rva_0,P_rva_0,chkL,ev,a1]; exact ⟨rfl,rfl⟩
  cases a2 : decide (u.1 ≥ 32)
  case true => rw [a1,a2] at ev; simp only [F_rva_0,P_rva_0,chkL,ev,a1,a2]; exact ⟨rfl,rfl⟩
  rw [a1,a2] at ev
  have ev : vdiS (u,s.1,s.2.1) = ritS (s,u) := ev
  have key : (∀ i : Nat,i = k + 1 → vdiS (u,s.1,s.2.1) = true → F_rva_0 r (s,i) = (chkL s (some u.1) r && decide (utS s.2.2 ≤ 1024)) ∧ P_rva_0 r (s,i) = true) := fun i hi hv => by
   subst hi
   obtain ⟨i1,i2⟩ := rva_0 hl hr r (k + 1) h3 (take_all h hp hv)
   have e0 : prv s (k + 1) = some u.1 := by show some _ = _; rw [h2]
   rw [e0] at i1
   exact ⟨i1,i2⟩
  cases k with
  | zero =>
   simp only [F_rva_0,P_rva_0,chkL,ev,a1,a2,hr]
   cases hv : ritS (s,u)
   ·exact ⟨rfl,rfl⟩
   ·obtain ⟨i1,i2⟩ := key 1 rfl (by rw [ev,hv])
    simp only [Nat.zero_add,i1,i2]
    exact ⟨rfl,rfl⟩
  | succ j =>
   have e1 := iwk (j := j) (by omega)
   have e2 : decide (((j + 1 : Nat) : Int) > 0) = true := decide_eq_true (by omega)
   have e3 : decide ((0 : Int) ≤ ((j : Nat) : Int)) = true := decide_eq_true (by omega)
   have e4 : decide (((j : Nat) : Int) < ((List.length s.2.2 : Nat) : Int)) = true := decide_eq_true (by omega)
   have e5 : prvB (prv s (j + 1)) u.1 = !decide (u.1 ≤ (s.2.2.getD j zDs).1) := by
    show decide ((s.2.2.getD j zDs).1 < u.1) = _
    by_cases h : (s.2.2.getD j zDs).1 < u.1
    ·rw [decide_eq_true h,decide_eq_false (by omega)]; rfl
    ·rw [decide_eq_false h,decide_eq_true (by omega)]; rfl
   have ez : List.getD s.2.2 j zQ = s.2.2.getD j zDs := rfl
   simp only [F_rva_0,P_rva_0,chkL,ev,a1,a2,hr,e1,e2,e3,e4,e5,ez,Int.toNat_natCast]
   cases hv : ritS (s,u)
   ·cases decide (u.1 ≤ (s.2.2.getD j zDs).1) <;> exact ⟨rfl,rfl⟩
   ·obtain ⟨i1,i2⟩ := key (j + 1 + 1) rfl (by rw [ev,hv])
    rw [i1,i2]
    cases decide (u.1 ≤ (s.2.2.getD j zDs).1) <;> exact ⟨rfl,rfl⟩
theorem rva_both : ∀ s : SSd,(fun _ => true) s = true → P_rva s = true ∧ F_rva s = valS s := fun s _ => by
 have ez := rng_cases s.1 s.2.1
 simp only [P_rva,F_rva,valS,bif_nn]
 rw [ez]
 constructor
 ·refine bif_nu fun a1 => bif_nu fun a2 => bif_nu fun a3 => bif_nu fun a4 => bif_nu fun a5 => ?_
  have hl : s.2.2.length ≤ 32 := by have := of_decide_eq_false a5; omega
  have hr : rngB s.1 s.2.1 = true := by rw [ez,a1,a2,a3,a4]; rfl
  rw [(rva_0 hl hr s.2.2 0 rfl (by simp)).2,decide_eq_true (by omega)]; rfl
 ·cases a1 : decide (s.1 < 0)
  case true => rfl
  cases a2 : decide (s.1 > 1099511627776)
  case true => rfl
  cases a3 : decide (s.2.1 < 0)
  case true => rfl
  cases a4 : decide (s.2.1 > 1125899906842624)
  case true => rfl
  have hr : rngB s.1 s.2.1 = true := by rw [ez,a1,a2,a3,a4]; rfl
  by_cases hl : s.2.2.length ≤ 32
  ·rw [(rva_0 hl hr s.2.2 0 rfl (by simp)).1,decide_eq_true hl,decide_eq_false (show ¬ ((List.length s.2.2 : Nat) : Int) > 32 by omega)]; rfl
  ·rw [decide_eq_false hl,decide_eq_true (show ((List.length s.2.2 : Nat) : Int) > 32 by omega)]; rfl
theorem rva_P : ∀ s : SSd,(fun _ => true) s = true → P_rva s = true := fun s h => (rva_both s h).1
theorem rva_F : ∀ s : SSd,(fun _ => true) s = true → F_rva s = valS s := fun s h => (rva_both s h).2
theorem rva_run : ∀ a,(fun _ => true : SSd → Bool) a = true → ∃ f,M_rva f a = some ((valS : SSd → Bool) a) := fun a h => by have h1 := rva_auto a (rva_P a h); rw [rva_F a h] at h1; exact h1
noncomputable def E_rva : Ent := ⟨21,[.g tSSd],[.v (.bool)],fun a => (fun _ => true : SSd → Bool) a,fun a => (valS : SSd → Bool) a⟩
theorem E_rva_ok : E_rva.Ok Try.prog := fun a hp vs hv => (rva_run a hp).elim fun f h => fnX_ok (C := C_rva) (Lt := Lt_rva) (fn := Try.f21) (rs := [.tmp 2]) [.g tSSd] [.v (.bool)] mixed es_rva Try.func21 rfl rfl rfl (by kernel_rfl) (by kernel_rfl) f h vs hv
end Go.AL
namespace Go.AL
open Go.Proofs
def mayR (d : SDs) : Bool := decide (dW d = 0) && (!dRem d && (!dBlk d && decide (dLft d > 0)))
def mayB (d : SDs) : Bool := !decide (dW d = 0) && !dBlk d
noncomputable def C_ch1 : Cfg := ⟨Try.prog,[E_irt],pmT [],20,[],[],[],[]⟩
theorem es_ch1 : EsOk Try.prog [E_irt] [] [] := es_cons E_irt_ok (es_nil)
def Lt_ch1 : Nat → LD := ldT []
noncomputable def M_ch1 (f : Nat) (a : SDs) : Option (Bool) := (runX (C_ch1) Lt_ch1 (Kret Try.prog [.tmp 2] [.v (.bool)]) f [.code (bodyOf Try.f63)] (initX [.g tSDs] a) : Option (ResT [.v (.bool)]))
theorem M_ch1_eq (f : Nat) (d : SDs) : M_ch1 (f + 1) d =
  bif d.2.1 == 0 then bif !d.2.2.2.2.2.2.1 then bif !d.2.2.2.2.1 then some (decide (d.2.2.2.2.2.2.2.2.1 > 0)) else some false else some false else some false := by kernel_rfl
noncomputable def F_ch1 : SDs → Bool
 | d => bif d.2.1 == 0 then bif !d.2.2.2.2.2.2.1 then bif !d.2.2.2.2.1 then decide (d.2.2.2.2.2.2.2.2.1 > 0) else false else false else false
noncomputable def P_ch1 : SDs → Bool
 | d => true
theorem ch1_auto : ∀ a : SDs,Rns (fun f => M_ch1 f a) (P_ch1 a) (F_ch1 a)
 | d => ev_step (fun f => M_ch1_eq f _) (ev_bift (ev_bift (ev_bift ev_some ev_some) ev_some) ev_some)
theorem ch1_P : ∀ a,(fun _ => true) a = true → P_ch1 a = true := fun a _ => rfl
theorem ch1_F : ∀ a,(fun _ => true) a = true → F_ch1 a = mayR a := fun a _ => by
 simp only [F_ch1,mayR,bif_af,beqD]
theorem ch1_run : ∀ a,(fun _ => true : SDs → Bool) a = true → ∃ f,M_ch1 f a = some ((mayR : SDs → Bool) a) := fun a h => by have h1 := ch1_auto a (ch1_P a h); rw [ch1_F a h] at h1; exact h1
noncomputable def E_ch1 : Ent := ⟨63,[.g tSDs],[.v (.bool)],fun a => (fun _ => true : SDs → Bool) a,fun a => (mayR : SDs → Bool) a⟩
theorem E_ch1_ok : E_ch1.Ok Try.prog := fun a hp vs hv => (ch1_run a hp).elim fun f h => fnX_ok (C := C_ch1) (Lt := Lt_ch1) (fn := Try.f63) (rs := [.tmp 2]) [.g tSDs] [.v (.bool)] mixed es_ch1 Try.func63 rfl rfl rfl (by kernel_rfl) (by kernel_rfl) f h vs hv
noncomputable def C_ch2 : Cfg := ⟨Try.prog,[],pmT [],10,[],[],[],[]⟩
theorem es_ch2 : EsOk Try.prog [] [] [] := es_nil
def Lt_ch2 : Nat → LD := ldT []
noncomputable def M_ch2 (f : Nat) (a : SDs × SDs) : Option (Bool) := (runX (C_ch2) Lt_ch2 (Kret Try.prog [.tmp 4] [.v (.bool)]) f [.code (bodyOf Try.f64)] (initX [.g tSDs,.g tSDs] a) : Option (ResT [.v (.bool)]))
theorem M_ch2_eq (f : Nat) (a : SDs) (b : SDs) : M_ch2 (f + 1) (a,b) =
  some (decide (a.2.2.2.2.2.2.2.1 < b.2.2.2.2.2.2.2.1)) := by kernel_rfl
noncomputable def F_ch2 : (SDs × SDs) → Bool
 | (a,b) => decide (a.2.2.2.2.2.2.2.1 < b.2.2.2.2.2.2.2.1)
noncomputable def P_ch2 : (SDs × SDs) → Bool
 | (a,b) => true
theorem ch2_auto : ∀ a : SDs × SDs,Rns (fun f => M_ch2 f a) (P_ch2 a) (F_ch2 a)
 | (a,b) => ev_step (fun f => M_ch2_eq f _ _) ev_some
theorem ch2_P : ∀ a : SDs × SDs,(fun _ => true) a = true → P_ch2 a = true := fun a _ => rfl
theorem ch2_F : ∀ a : SDs × SDs,(fun _ => true) a = true → F_ch2 a = (fun a : SDs × SDs => decide (dDl a.1 < dDl a.2)) a := fun a _ => rfl
theorem ch2_run : ∀ a,(fun _ => true : SDs × SDs → Bool) a = true → ∃ f,M_ch2 f a = some ((fun a : SDs × SDs => decide (dDl a.1 < dDl a.2) : SDs × SDs → Bool) a) := fun a h => by have h1 := ch2_auto a (ch2_P a h); rw [ch2_F a h] at h1; exact h1
noncomputable def E_ch2 : Ent := ⟨64,[.g tSDs,.g tSDs],[.v (.bool)],fun a => (fun _ => true : SDs × SDs → Bool) a,fun a => (fun a : SDs × SDs => decide (dDl a.1 < dDl a.2) : SDs × SDs → Bool) a⟩
theorem E_ch2_ok : E_ch2.Ok Try.prog := fun a hp vs hv => (ch2_run a hp).elim fun f h => fnX_ok (C := C_ch2) (Lt := Lt_ch2) (fn := Try.f64) (rs := [.tmp 4]) [.g tSDs,.g tSDs] [.v (.bool)] mixed es_ch2 Try.func64 rfl rfl rfl (by kernel_rfl) (by kernel_rfl) f h vs hv
noncomputable def C_ch3 : Cfg := ⟨Try.prog,[E_irt],pmT [],11,[],[],[],[]⟩
theorem es_ch3 : EsOk Try.prog [E_irt] [] [] := es_cons E_irt_ok (es_nil)
def Lt_ch3 : Nat → LD := ldT []
noncomputable def M_ch3 (f : Nat) (a : SDs) : Option (Bool) := (runX (C_ch3) Lt_ch3 (Kret Try.prog [.tmp 2] [.v (.bool)]) f [.code (bodyOf Try.f65)] (initX [.g tSDs] a) : Option (ResT [.v (.bool)]))
theorem M_ch3_eq (f : Nat) (d : SDs) : M_ch3 (f + 1) d =
  bif !d.2.1 == 0 then some !d.2.2.2.2.1 else some false := by kernel_rfl
noncomputable def F_ch3 : SDs → Bool
 | d => bif !d.2.1 == 0 then !d.2.2.2.2.1 else false
noncomputable def P_ch3 : SDs → Bool
 | d => true
theorem ch3_auto : ∀ a : SDs,Rns (fun f => M_ch3 f a) (P_ch3 a) (F_ch3 a)
 | d => ev_step (fun f => M_ch3_eq f _) (ev_bift ev_some ev_some)
theorem ch3_P : ∀ a,(fun _ => true) a = true → P_ch3 a = true := fun a _ => rfl
theorem ch3_F : ∀ a,(fun _ => true) a = true → F_ch3 a = mayB a := fun a _ => by
 simp only [F_ch3,mayB,bif_af,beqD]
theorem ch3_run : ∀ a,(fun _ => true : SDs → Bool) a = true → ∃ f,M_ch3 f a = some ((mayB : SDs → Bool) a) := fun a h => by have h1 := ch3_auto a (ch3_P a h); rw [ch3_F a h] at h1; exact h1
noncomputable def E_ch3 : Ent := ⟨65,[.g tSDs],[.v (.bool)],fun a => (fun _ => true : SDs → Bool) a,fun a => (mayB : SDs → Bool) a⟩
theorem E_ch3_ok : E_ch3.Ok Try.prog := fun a hp vs hv => (ch3_run a hp).elim fun f h => fnX_ok (C := C_ch3) (Lt := Lt_ch3) (fn := Try.f65) (rs := [.tmp 2]) [.g tSDs] [.v (.bool)] mixed es_ch3 Try.func65 rfl rfl rfl (by kernel_rfl) (by kernel_rfl) f h vs hv
noncomputable def C_ch4 : Cfg := ⟨Try.prog,[],pmT [],10,[],[],[],[]⟩
theorem es_ch4 : EsOk Try.prog [] [] [] := es_nil
def Lt_ch4 : Nat → LD := ldT []
noncomputable def M_ch4 (f : Nat) (a : SDs × SDs) : Option (Bool) := (runX (C_ch4) Lt_ch4 (Kret Try.prog [.tmp 4] [.v (.bool)]) f [.code (bodyOf Try.f66)] (initX [.g tSDs,.g tSDs] a) : Option (ResT [.v (.bool)]))
theorem M_ch4_eq (f : Nat) (a : SDs) (b : SDs) : M_ch4 (f + 1) (a,b) =
  some (decide (a.2.2.2.2.2.2.2.2.2.1 < b.2.2.2.2.2.2.2.2.2.1)) := by kernel_rfl
noncomputable def F_ch4 : (SDs × SDs) → Bool
 | (a,b) => decide (a.2.2.2.2.2.2.2.2.2.1 < b.2.2.2.2.2.2.2.2.2.1)
noncomputable def P_ch4 : (SDs × SDs) → Bool
 | (a,b) => true
theorem ch4_auto : ∀ a : SDs × SDs,Rns (fun f => M_ch4 f a) (P_ch4 a) (F_ch4 a)
 | (a,b) => ev_step (fun f => M_ch4_eq f _ _) ev_some
theorem ch4_P : ∀ a : SDs × SDs,(fun _ => true) a = true → P_ch4 a = true := fun a _ => rfl
theorem ch4_F : ∀ a : SDs × SDs,(fun _ => true) a = true → F_ch4 a = (fun a : SDs × SDs => decide (dPas a.1 < dPas a.2)) a := fun a _ => rfl
theorem ch4_run : ∀ a,(fun _ => true : SDs × SDs → Bool) a = true → ∃ f,M_ch4 f a = some ((fun a : SDs × SDs => decide (dPas a.1 < dPas a.2) : SDs × SDs → Bool) a) := fun a h => by have h1 := ch4_auto a (ch4_P a h); rw [ch4_F a h] at h1; exact h1
noncomputable def E_ch4 : Ent := ⟨66,[.g tSDs,.g tSDs],[.v (.bool)],fun a => (fun _ => true : SDs × SDs → Bool) a,fun a => (fun a : SDs × SDs => decide (dPas a.1 < dPas a.2) : SDs × SDs → Bool) a⟩
theorem E_ch4_ok : E_ch4.Ok Try.prog := fun a hp vs hv => (ch4_run a hp).elim fun f h => fnX_ok (C := C_ch4) (Lt := Lt_ch4) (fn := Try.f66) (rs := [.tmp 4]) [.g tSDs,.g tSDs] [.v (.bool)] mixed es_ch4 Try.func66 rfl rfl rfl (by kernel_rfl) (by kernel_rfl) f h vs hv
noncomputable def C_icl : Cfg := ⟨Try.prog,[],pmT [],8,[],[],[],[]⟩
theorem es_icl : EsOk Try.prog [] := es_nil
theorem X_icl (l : List (Int)) : (runX C_icl (fun _ => ⟨[],[],0⟩) (Kret Try.prog [.tmp 2] [.o 3 1 [.int .i64]]) 1 [.code (bodyOf Try.f58)] (initX [.rd [.int .i64]] l) : Option (ResT [.o 3 1 [.int .i64]])) = bif Decidable.decide (0 < l.length) && Bool.true then bif Decidable.decide ((([] : List Nat).length + l.length) * (bytesOf Try.prog 3) ≤ 140737488355328) then some l else none else none := by kernel_rfl
noncomputable def E_icl : Ent := ⟨58,[.rd [.int .i64]],[.o 3 1 [.int .i64]],fun a => len40n (a : List (Int)),fun a => (a : List (Int))⟩
theorem E_icl_ok : E_icl.Ok Try.prog := fun a hp vs hv => clone_ok (τ := [.int .i64]) (t := 3) (es := 1)
  (fun a h0 h1 vs hv => fnX_ok (C := C_icl) (Lt := fun _ => ⟨[],[],0⟩) (fn := Try.f58) (rs := [.tmp 2]) [.rd [.int .i64]] [.o 3 1 [.int .i64]] mixed es_icl Try.func58 rfl rfl rfl (by kernel_rfl) (by kernel_rfl) 1 ((X_icl a).trans (clone_len h0 h1 (by decide +kernel))) vs hv)
  (fnX_ok (C := C_icl) (Lt := fun _ => ⟨[],[],0⟩) (fn := Try.f58) (rs := [.tmp 2]) (a := ()) [.raw (.slice none 0 0)] [.o 3 1 [.int .i64]] mixed es_icl Try.func58 rfl rfl rfl (by kernel_rfl) (by kernel_rfl) 1 (by kernel_rfl) _ (by simp only [ArgsV,ArgsV1,ArgV]; exact ⟨_,rfl,rfl⟩))
  (fun b c => fnX_ok (C := C_icl) (Lt := fun _ => ⟨[],[],0⟩) (fn := Try.f58) (rs := [.tmp 2]) (a := ()) [.raw (.slice (some b) 0 c)] [.o 3 1 [.int .i64]] mixed es_icl Try.func58 rfl rfl rfl (by kernel_rfl) (by kernel_rfl) 1 (by kernel_rfl) _ (by simp only [ArgsV,ArgsV1,ArgV]; exact ⟨_,rfl,rfl⟩))
  a (of_decide_eq_true hp) vs hv
noncomputable def C_dcl : Cfg := ⟨Try.prog,[],pmT [],8,[],[],[],[]⟩
theorem es_dcl : EsOk Try.prog [] := es_nil
theorem X_dcl (l : List (SDs)) : (runX C_dcl (fun _ => ⟨[],[],0⟩) (Kret Try.prog [.tmp 2] [.o 53 11 tSDs]) 1 [.code (bodyOf Try.f57)] (initX [.rd tSDs] l) : Option (ResT [.o 53 11 tSDs])) = bif Decidable.decide (0 < l.length) && Bool.true then bif Decidable.decide ((([] : List Nat).length + l.length) * (bytesOf Try.prog 53) ≤ 140737488355328) then some l else none else none := by kernel_rfl
noncomputable def E_dcl : Ent := ⟨57,[.rd tSDs],[.o 53 11 tSDs],fun a => len40n (a : List (SDs)),fun a => (a : List (SDs))⟩
theorem E_dcl_ok : E_dcl.Ok Try.prog := fun a hp vs hv => clone_ok (τ := tSDs) (t := 53) (es := 11)
  (fun a h0 h1 vs hv => fnX_ok (C := C_dcl) (Lt := fun _ => ⟨[],[],0⟩) (fn := Try.f57) (rs := [.tmp 2]) [.rd tSDs] [.o 53 11 tSDs] mixed es_dcl Try.func57 rfl rfl rfl (by kernel_rfl) (by kernel_rfl) 1 ((X_dcl a).trans (clone_len h0 h1 (by decide +kernel))) vs hv)
  (fnX_ok (C := C_dcl) (Lt := fun _ => ⟨[],[],0⟩) (fn := Try.f57) (rs := [.tmp 2]) (a := ()) [.raw (.slice none 0 0)] [.o 53 11 tSDs] mixed es_dcl Try.func57 rfl rfl rfl (by kernel_rfl) (by kernel_rfl) 1 (by kernel_rfl) _ (by simp only [ArgsV,ArgsV1,ArgV]; exact ⟨_,rfl,rfl⟩))
  (fun b c => fnX_ok (C := C_dcl) (Lt := fun _ => ⟨[],[],0⟩) (fn := Try.f57) (rs := [.tmp 2]) (a := ()) [.raw (.slice (some b) 0 c)] [.o 53 11 tSDs] mixed es_dcl Try.func57 rfl rfl rfl (by kernel_rfl) (by kernel_rfl) 1 (by kernel_rfl) _ (by simp only [ArgsV,ArgsV1,ArgV]; exact ⟨_,rfl,rfl⟩))
  a (of_decide_eq_true hp) vs hv
def fstL (may : SDs → Bool) (ky : SDs → Int) (l : List SDs) : List SDs → Nat → Int → Int
 | [],_,b => b
 | d :: r,k,b => fstL may ky l r (k + 1) (bif may d && (decide (b < 0) || decide (ky d < ky (l.getD b.toNat zDs))) then ((k : Nat) : Int) else b)
noncomputable def C_fs1 : Cfg := ⟨Try.prog,[E_ch1,E_ch2],pmT [(5,([(0,[]),(1,[]),(2,[]),(3,[]),(4,[]),(5,[]),(6,[]),(7,[]),(8,[]),(9,[]),(10,[]),(11,[]),(12,[]),(13,[]),(14,[]),(15,[])],[(17,32)]))],36,[],[],[],[]⟩
theorem es_fs1 : EsOk Try.prog [E_ch1,E_ch2] [] [] := es_cons E_ch1_ok (es_cons E_ch2_ok (es_nil))
def Lt_fs1 : Nat → LD := ldT [(0,⟨[.rd 0 tSDs,.fn 1 63 [],.fn 2 64 [],.c 7 (.int .i64),.rd 10 tSDs,.c 11 (.int .i64),.c 12 (.int .i64)],[],0⟩)]
noncomputable def M_fs1 (f : Nat) (a : (List (SDs)) × Unit × Unit) : Option (Int) := (runX (C_fs1) Lt_fs1 (Kret Try.prog [.tmp 6] [.v (.int .i64)]) f [.code (bodyOf Try.f62)] (initX [.rd tSDs,.fn 63 [],.fn 64 []] a) : Option (ResT [.v (.int .i64)]))
noncomputable def L_fs1_0 (f : Nat) (x : (List (SDs)) × Unit × Unit × Int × (List (SDs)) × Int × Int) : Option (Int) := (runX (C_fs1) Lt_fs1 (Kret Try.prog [.tmp 6] [.v (.int .i64)]) f (headOf Try.f62 0) ((Lt_fs1 0).mk' x) : Option (ResT [.v (.int .i64)]))
theorem M_fs1_eq (f : Nat) (l : List (SDs)) (may : Unit) (less : Unit) : M_fs1 (f + 1) (l,may,less) =
  L_fs1_0 f (l,(),(),-1,l,(↑l.length : Int),0) := by kernel_rfl
theorem L_fs1_0_eq (f : Nat) (l : List (SDs)) (may : Unit) (less : Unit) (best : Int) (x10 : List (SDs)) (x11 : Int) (x12 : Int) : L_fs1_0 (f + 1) (l,may,less,best,x10,x11,x12) =
  bif decide (x12 < x11) then bif decide (0 ≤ x12) && decide (x12 < (↑x10.length : Int)) then bif mayR (x10.getD x12.toNat zQ) then bif decide (best < 0) then L_fs1_0 f (l,(),(),x12,x10,x11,IntKind.i64.wrap (x12 + 1)) else bif decide (0 ≤ best) && decide (best < (↑l.length : Int)) then bif decide (dDl (x10.getD x12.toNat zQ) < dDl (l.getD best.toNat zQ)) then L_fs1_0 f (l,(),(),x12,x10,x11,IntKind.i64.wrap (x12 + 1)) else L_fs1_0 f (l,(),(),best,x10,x11,IntKind.i64.wrap (x12 + 1)) else none else L_fs1_0 f (l,(),(),best,x10,x11,IntKind.i64.wrap (x12 + 1)) else none else some best := by kernel_rfl
noncomputable def F_fs1_0 : List (SDs) → ((List (SDs)) × Unit × Unit × Int × (List (SDs)) × Int × Nat) → Int
 | [],(l,may,less,best,x10,x11,x12) => best
 | uu :: rest,(l,may,less,best,x10,x11,x12) => bif mayR uu then bif decide (best < 0) then F_fs1_0 rest (l,(),(),(↑x12 : Int),x10,x11,x12 + 1) else bif decide (dDl uu < dDl (l.getD best.toNat zQ)) then F_fs1_0 rest (l,(),(),(↑x12 : Int),x10,x11,x12 + 1) else F_fs1_0 rest (l,(),(),best,x10,x11,x12 + 1) else F_fs1_0 rest (l,(),(),best,x10,x11,x12 + 1)
noncomputable def P_fs1_0 : List (SDs) → ((List (SDs)) × Unit × Unit × Int × (List (SDs)) × Int × Nat) → Bool
 | [],(l,may,less,best,x10,x11,x12) => true
 | uu :: rest,(l,may,less,best,x10,x11,x12) => bif mayR uu then bif decide (best < 0) then P_fs1_0 rest (l,(),(),(↑x12 : Int),x10,x11,x12 + 1) else decide (0 ≤ best) && decide (best < (↑l.length : Int)) && bif decide (dDl uu < dDl (l.getD best.toNat zQ)) then P_fs1_0 rest (l,(),(),(↑x12 : Int),x10,x11,x12 + 1) else P_fs1_0 rest (l,(),(),best,x10,x11,x12 + 1) else P_fs1_0 rest (l,(),(),best,x10,x11,x12 + 1)
theorem A_fs1_0 : ∀ (rest : List (SDs)) (l : List (SDs)) (may : Unit) (less : Unit) (best : Int) (x10 : List (SDs)) (x11 : Int) (x12 : Nat) (hd : x10.drop x12 = rest) (hn : x11 = ((x10.length : Nat) : Int)) (hl : x10.length ≤ 1099511627776),Rns (fun f => L_fs1_0 f (l,may,less,best,x10,x11,((x12 : Nat) : Int))) (P_fs1_0 rest (l,may,less,best,x10,x11,x12)) (F_fs1_0 rest (l,may,less,best,x10,x11,x12))
 | [],l,may,less,best,x10,x11,x12,hd,hn,hl => ev_step (T := fun f => some best) (fun f => (L_fs1_0_eq f _ _ _ _ _ _ _).trans (by simp only [ge_decn hn (drop_ge hd),ge0,Bool.and_self,Bool.true_and,cond_true,cond_false,List.length_set] <;> rfl)) ev_some
 | uu :: rest,l,may,less,best,x10,x11,x12,hd,hn,hl => ev_step (T := fun f => bif mayR uu then bif decide (best < 0) then L_fs1_0 f (l,(),(),(↑x12 : Int),x10,x11,(↑(x12 + 1) : Int)) else bif decide (0 ≤ best) && decide (best < (↑l.length : Int)) then bif decide (dDl uu < dDl (l.getD best.toNat zQ)) then L_fs1_0 f (l,(),(),(↑x12 : Int),x10,x11,(↑(x12 + 1) : Int)) else L_fs1_0 f (l,(),(),best,x10,x11,(↑(x12 + 1) : Int)) else none else L_fs1_0 f (l,(),(),best,x10,x11,(↑(x12 + 1) : Int))) (fun f => (L_fs1_0_eq f _ _ _ _ _ _ _).trans (by simp only [lt_decn hn (drop_lt hd),lt_dec (drop_lt hd),drop_get hd,wrap_succ (drop_lt hd) hl,getD_set (drop_lt hd),ge0,Bool.and_self,Bool.true_and,cond_true,cond_false,List.length_set] <;> rfl)) (ev_bif (ev_bif (A_fs1_0 rest _ _ _ _ _ _ _ (by first | exact drop_succ hd | exact drop_set hd | exact drop_setS (drop_set hd)) (by first | exact hn | simpa using hn) (by first | exact hl | simpa using hl)) (ev_chk (ev_bif (A_fs1_0 rest _ _ _ _ _ _ _ (by first | exact drop_succ hd | exact drop_set hd | exact drop_setS (drop_set hd)) (by first | exact hn | simpa using hn) (by first | exact hl | simpa using hl)) (A_fs1_0 rest _ _ _ _ _ _ _ (by first | exact drop_succ hd | exact drop_set hd | exact drop_setS (drop_set hd)) (by first | exact hn | simpa using hn) (by first | exact hl | simpa using hl))))) (A_fs1_0 rest _ _ _ _ _ _ _ (by first | exact drop_succ hd | exact drop_set hd | exact drop_setS (drop_set hd)) (by first | exact hn | simpa using hn) (by first | exact hl | simpa using hl)))
noncomputable def F_fs1 : ((List (SDs)) × Unit × Unit) → Int
 | (l,may,less) => F_fs1_0 l (l,(),(),-1,l,(↑l.length : Int),0)
noncomputable def P_fs1 : ((List (SDs)) × Unit × Unit) → Bool
 | (l,may,less) => decide (l.length ≤ 1099511627776) && P_fs1_0 l (l,(),(),-1,l,(↑l.length : Int),0)
theorem fs1_auto : ∀ a : (List (SDs)) × Unit × Unit,Rns (fun f => M_fs1 f a) (P_fs1 a) (F_fs1 a)
 | (l,may,less) => ev_step (fun f => M_fs1_eq f _ _ _) (ev_and fun hh => A_fs1_0 _ _ _ _ _ _ _ _ rfl (by first | rfl | simp) (of_decide_eq_true hh))
theorem fs1_0 (l x10 : List SDs) (x11 : Int) : ∀ (r : List SDs) (k : Nat) (b : Int),l.drop k = r → b < ((l.length : Nat) : Int) → (b < 0 ∨ 0 ≤ b) → F_fs1_0 r (l,(),(),b,x10,x11,k) = fstL mayR dDl l r k b ∧ P_fs1_0 r (l,(),(),b,x10,x11,k) = true
 | [],k,b,h,hb,_ => ⟨rfl,rfl⟩
 | d :: r,k,b,h,hb,_ => by
  obtain ⟨h1,h2,h3⟩ := drop_get2 zDs h
  obtain ⟨i1,i2⟩ := fs1_0 l x10 x11 r (k + 1) b h3 hb (by omega)
  obtain ⟨j1,j2⟩ := fs1_0 l x10 x11 r (k + 1) ((k : Nat) : Int) h3 (by omega) (by omega)
  have ez : l.getD b.toNat zQ = l.getD b.toNat zDs := rfl
  simp only [F_fs1_0,P_fs1_0,fstL,i1,i2,j1,j2,ez]
  cases mayR d
  ·exact ⟨rfl,rfl⟩
  ·by_cases hb0 : b < 0
   ·rw [decide_eq_true hb0]; exact ⟨rfl,rfl⟩
   ·rw [decide_eq_false hb0,decide_eq_true (show 0 ≤ b by omega),decide_eq_true hb]
    cases decide (dDl d < dDl (l.getD b.toNat zDs)) <;> exact ⟨rfl,rfl⟩
theorem fs1_both : ∀ a : List SDs × Unit × Unit,(fun a : List SDs × Unit × Unit => len40n a.1) a = true → P_fs1 a = true ∧ F_fs1 a = fstL mayR dDl a.1 a.1 0 (-1) := by
 rintro ⟨l,⟨⟩,⟨⟩⟩ h
 have hl : l.length ≤ 1099511627776 := of_decide_eq_true (show len40n l = true from h)
 obtain ⟨i1,i2⟩ := fs1_0 l l ((l.length : Nat) : Int) l 0 (-1) rfl (by omega) (by omega)
 simp only [P_fs1,F_fs1,i1,i2,Bool.and_true]
 exact ⟨decide_eq_true hl,trivial⟩
theorem fs1_P : ∀ a : List SDs × Unit × Unit,(fun a : List SDs × Unit × Unit => len40n a.1) a = true → P_fs1 a = true := fun a h => (fs1_both a h).1
theorem fs1_F : ∀ a : List SDs × Unit × Unit,(fun a : List SDs × Unit × Unit => len40n a.1) a = true → F_fs1 a = (fun a : List SDs × Unit × Unit => fstL mayR dDl a.1 a.1 0 (-1)) a := fun a h => (fs1_both a h).2
theorem fs1_run : ∀ a,(fun a : List SDs × Unit × Unit => len40n a.1 : (List (SDs)) × Unit × Unit → Bool) a = true → ∃ f,M_fs1 f a = some ((fun a : List SDs × Unit × Unit => fstL mayR dDl a.1 a.1 0 (-1) : (List (SDs)) × Unit × Unit → Int) a) := fun a h => by have h1 := fs1_auto a (fs1_P a h); rw [fs1_F a h] at h1; exact h1
noncomputable def E_fs1 : Ent := ⟨62,[.rd tSDs,.fn 63 [],.fn 64 []],[.v (.int .i64)],fun a => (fun a : List SDs × Unit × Unit => len40n a.1 : (List (SDs)) × Unit × Unit → Bool) a,fun a => (fun a : List SDs × Unit × Unit => fstL mayR dDl a.1 a.1 0 (-1) : (List (SDs)) × Unit × Unit → Int) a⟩
theorem E_fs1_ok : E_fs1.Ok Try.prog := fun a hp vs hv => (fs1_run a hp).elim fun f h => fnX_ok (C := C_fs1) (Lt := Lt_fs1) (fn := Try.f62) (rs := [.tmp 6]) [.rd tSDs,.fn 63 [],.fn 64 []] [.v (.int .i64)] mixed es_fs1 Try.func62 rfl rfl rfl (by kernel_rfl) (by kernel_rfl) f h vs hv
noncomputable def C_fs3 : Cfg := ⟨Try.prog,[E_ch3,E_ch4],pmT [(5,([(0,[]),(1,[]),(2,[]),(3,[]),(4,[]),(5,[]),(6,[]),(7,[]),(8,[]),(9,[]),(10,[]),(11,[]),(12,[]),(13,[]),(14,[]),(15,[])],[(17,32)]))],36,[],[],[],[]⟩
theorem es_fs3 : EsOk Try.prog [E_ch3,E_ch4] [] [] := es_cons E_ch3_ok (es_cons E_ch4_ok (es_nil))
def Lt_fs3 : Nat → LD := ldT [(0,⟨[.rd 0 tSDs,.fn 1 65 [],.fn 2 66 [],.c 7 (.int .i64),.rd 10 tSDs,.c 11 (.int .i64),.c 12 (.int .i64)],[],0⟩)]
noncomputable def M_fs3 (f : Nat) (a : (List (SDs)) × Unit × Unit) : Option (Int) := (runX (C_fs3) Lt_fs3 (Kret Try.prog [.tmp 6] [.v (.int .i64)]) f [.code (bodyOf Try.f62)] (initX [.rd tSDs,.fn 65 [],.fn 66 []] a) : Option (ResT [.v (.int .i64)]))
noncomputable def L_fs3_0 (f : Nat) (x : (List (SDs)) × Unit × Unit × Int × (List (SDs)) × Int × Int) : Option (Int) := (runX (C_fs3) Lt_fs3 (Kret Try.prog [.tmp 6] [.v (.int .i64)]) f (headOf Try.f62 0) ((Lt_fs3 0).mk' x) : Option (ResT [.v (.int .i64)]))
theorem M_fs3_eq (f : Nat) (l : List (SDs)) (may : Unit) (less : Unit) : M_fs3 (f + 1) (l,may,less) =
  L_fs3_0 f (l,(),(),-1,l,(↑l.length : Int),0) := by kernel_rfl
theorem L_fs3_0_eq (f : Nat) (l : List (SDs)) (may : Unit) (less : Unit) (best : Int) (x10 : List (SDs)) (x11 : Int) (x12 : Int) : L_fs3_0 (f + 1) (l,may,less,best,x10,x11,x12) =
  bif decide (x12 < x11) then bif decide (0 ≤ x12) && decide (x12 < (↑x10.length : Int)) then bif mayB (x10.getD x12.toNat zQ) then bif decide (best < 0) then L_fs3_0 f (l,(),(),x12,x10,x11,IntKind.i64.wrap (x12 + 1)) else bif decide (0 ≤ best) && decide (best < (↑l.length : Int)) then bif decide (dPas (x10.getD x12.toNat zQ) < dPas (l.getD best.toNat zQ)) then L_fs3_0 f (l,(),(),x12,x10,x11,IntKind.i64.wrap (x12 + 1)) else L_fs3_0 f (l,(),(),best,x10,x11,IntKind.i64.wrap (x12 + 1)) else none else L_fs3_0 f (l,(),(),best,x10,x11,IntKind.i64.wrap (x12 + 1)) else none else some best := by kernel_rfl
noncomputable def F_fs3_0 : List (SDs) → ((List (SDs)) × Unit × Unit × Int × (List (SDs)) × Int × Nat) → Int
 | [],(l,may,less,best,x10,x11,x12) => best
 | uu :: rest,(l,may,less,best,x10,x11,x12) => bif mayB uu then bif decide (best < 0) then F_fs3_0 rest (l,(),(),(↑x12 : Int),x10,x11,x12 + 1) else bif decide (dPas uu < dPas (l.getD best.toNat zQ)) then F_fs3_0 rest (l,(),(),(↑x12 : Int),x10,x11,x12 + 1) else F_fs3_0 rest (l,(),(),best,x10,x11,x12 + 1) else F_fs3_0 rest (l,(),(),best,x10,x11,x12 + 1)
noncomputable def P_fs3_0 : List (SDs) → ((List (SDs)) × Unit × Unit × Int × (List (SDs)) × Int × Nat) → Bool
 | [],(l,may,less,best,x10,x11,x12) => true
 | uu :: rest,(l,may,less,best,x10,x11,x12) => bif mayB uu then bif decide (best < 0) then P_fs3_0 rest (l,(),(),(↑x12 : Int),x10,x11,x12 + 1) else decide (0 ≤ best) && decide (best < (↑l.length : Int)) && bif decide (dPas uu < dPas (l.getD best.toNat zQ)) then P_fs3_0 rest (l,(),(),(↑x12 : Int),x10,x11,x12 + 1) else P_fs3_0 rest (l,(),(),best,x10,x11,x12 + 1) else P_fs3_0 rest (l,(),(),best,x10,x11,x12 + 1)
theorem A_fs3_0 : ∀ (rest : List (SDs)) (l : List (SDs)) (may : Unit) (less : Unit) (best : Int) (x10 : List (SDs)) (x11 : Int) (x12 : Nat) (hd : x10.drop x12 = rest) (hn : x11 = ((x10.length : Nat) : Int)) (hl : x10.length ≤ 1099511627776),Rns (fun f => L_fs3_0 f (l,may,less,best,x10,x11,((x12 : Nat) : Int))) (P_fs3_0 rest (l,may,less,best,x10,x11,x12)) (F_fs3_0 rest (l,may,less,best,x10,x11,x12))
 | [],l,may,less,best,x10,x11,x12,hd,hn,hl => ev_step (T := fun f => some best) (fun f => (L_fs3_0_eq f _ _ _ _ _ _ _).trans (by simp only [ge_decn hn (drop_ge hd),ge0,Bool.and_self,Bool.true_and,cond_true,cond_false,List.length_set] <;> rfl)) ev_some
 | uu :: rest,l,may,less,best,x10,x11,x12,hd,hn,hl => ev_step (T := fun f => bif mayB uu then bif decide (best < 0) then L_fs3_0 f (l,(),(),(↑x12 : Int),x10,x11,(↑(x12 + 1) : Int)) else bif decide (0 ≤ best) && decide (best < (↑l.length : Int)) then bif decide (dPas uu < dPas (l.getD best.toNat zQ)) then L_fs3_0 f (l,(),(),(↑x12 : Int),x10,x11,(↑(x12 + 1) : Int)) else L_fs3_0 f (l,(),(),best,x10,x11,(↑(x12 + 1) : Int)) else none else L_fs3_0 f (l,(),(),best,x10,x11,(↑(x12 + 1) : Int))) (fun f => (L_fs3_0_eq f _ _ _ _ _ _ _).trans (by simp only [lt_decn hn (drop_lt hd),lt_dec (drop_lt hd),drop_get hd,wrap_succ (drop_lt hd) hl,getD_set (drop_lt hd),ge0,Bool.and_self,Bool.true_and,cond_true,cond_false,List.length_set] <;> rfl)) (ev_bif (ev_bif (A_fs3_0 rest _ _ _ _ _ _ _ (by first | exact drop_succ hd | exact drop_set hd | exact drop_setS (drop_set hd)) (by first | exact hn | simpa using hn) (by first | exact hl | simpa using hl)) (ev_chk (ev_bif (A_fs3_0 rest _ _ _ _ _ _ _ (by first | exact drop_succ hd | exact drop_set hd | exact drop_setS (drop_set hd)) (by first | exact hn | simpa using hn) (by first | exact hl | simpa using hl)) (A_fs3_0 rest _ _ _ _ _ _ _ (by first | exact drop_succ hd | exact drop_set hd | exact drop_setS (drop_set hd)) (by first | exact hn | simpa using hn) (by first | exact hl | simpa using hl))))) (A_fs3_0 rest _ _ _ _ _ _ _ (by first | exact drop_succ hd | exact drop_set hd | exact drop_setS (drop_set hd)) (by first | exact hn | simpa using hn) (by first | exact hl | simpa using hl)))
noncomputable def F_fs3 : ((List (SDs)) × Unit × Unit) → Int
 | (l,may,less) => F_fs3_0 l (l,(),(),-1,l,(↑l.length : Int),0)
noncomputable def P_fs3 : ((List (SDs)) × Unit × Unit) → Bool
 | (l,may,less) => decide (l.length ≤ 1099511627776) && P_fs3_0 l (l,(),(),-1,l,(↑l.length : Int),0)
theorem fs3_auto : ∀ a : (List (SDs)) × Unit × Unit,Rns (fun f => M_fs3 f a) (P_fs3 a) (F_fs3 a)
 | (l,may,less) => ev_step (fun f => M_fs3_eq f _ _ _) (ev_and fun hh => A_fs3_0 _ _ _ _ _ _ _ _ rfl (by first | rfl | simp) (of_decide_eq_true hh))
theorem fs3_0 (l x10 : List SDs) (x11 : Int) : ∀ (r : List SDs) (k : Nat) (b : Int),l.drop k = r → b < ((l.length : Nat) : Int) → (b < 0 ∨ 0 ≤ b) → F_fs3_0 r (l,(),(),b,x10,x11,k) = fstL mayB dPas l r k b ∧ P_fs3_0 r (l,(),(),b,x10,x11,k) = true
 | [],k,b,h,hb,_ => ⟨rfl,rfl⟩
 | d :: r,k,b,h,hb,_ => by
  obtain ⟨h1,h2,h3⟩ := drop_get2 zDs h
  obtain ⟨i1,i2⟩ := fs3_0 l x10 x11 r (k + 1) b h3 hb (by omega)
  obtain ⟨j1,j2⟩ := fs3_0 l x10 x11 r (k + 1) ((k : Nat) : Int) h3 (by omega) (by omega)
  have ez : l.getD b.toNat zQ = l.getD b.toNat zDs := rfl
  simp only [F_fs3_0,P_fs3_0,fstL,i1,i2,j1,j2,ez]
  cases mayB d
  ·exact ⟨rfl,rfl⟩
  ·by_cases hb0 : b < 0
   ·rw [decide_eq_true hb0]; exact ⟨rfl,rfl⟩
   ·rw [decide_eq_false hb0,decide_eq_true (show 0 ≤ b by omega),decide_eq_true hb]
    cases decide (dPas d < dPas (l.getD b.toNat zDs)) <;> exact ⟨rfl,rfl⟩
theorem fs3_both : ∀ a : List SDs × Unit × Unit,(fun a : List SDs × Unit × Unit => len40n a.1) a = true → P_fs3 a = true ∧ F_fs3 a = fstL mayB dPas a.1 a.1 0 (-1) := by
 rintro ⟨l,⟨⟩,⟨⟩⟩ h
 have hl : l.length ≤ 1099511627776 := of_decide_eq_true (show len40n l = true from h)
 obtain ⟨i1,i2⟩ := fs3_0 l l ((l.length : Nat) : Int) l 0 (-1) rfl (by omega) (by omega)
 simp only [P_fs3,F_fs3,i1,i2,Bool.and_true]
 exact ⟨decide_eq_true hl,trivial⟩
theorem fs3_P : ∀ a : List SDs × Unit × Unit,(fun a : List SDs × Unit × Unit => len40n a.1) a = true → P_fs3 a = true := fun a h => (fs3_both a h).1
theorem fs3_F : ∀ a : List SDs × Unit × Unit,(fun a : List SDs × Unit × Unit => len40n a.1) a = true → F_fs3 a = (fun a : List SDs × Unit × Unit => fstL mayB dPas a.1 a.1 0 (-1)) a := fun a h => (fs3_both a h).2
theorem fs3_run : ∀ a,(fun a : List SDs × Unit × Unit => len40n a.1 : (List (SDs)) × Unit × Unit → Bool) a = true → ∃ f,M_fs3 f a = some ((fun a : List SDs × Unit × Unit => fstL mayB dPas a.1 a.1 0 (-1) : (List (SDs)) × Unit × Unit → Int) a) := fun a h => by have h1 := fs3_auto a (fs3_P a h); rw [fs3_F a h] at h1; exact h1
noncomputable def E_fs3 : Ent := ⟨62,[.rd tSDs,.fn 65 [],.fn 66 []],[.v (.int .i64)],fun a => (fun a : List SDs × Unit × Unit => len40n a.1 : (List (SDs)) × Unit × Unit → Bool) a,fun a => (fun a : List SDs × Unit × Unit => fstL mayB dPas a.1 a.1 0 (-1) : (List (SDs)) × Unit × Unit → Int) a⟩
theorem E_fs3_ok : E_fs3.Ok Try.prog := fun a hp vs hv => (fs3_run a hp).elim fun f h => fnX_ok (C := C_fs3) (Lt := Lt_fs3) (fn := Try.f62) (rs := [.tmp 6]) [.rd tSDs,.fn 65 [],.fn 66 []] [.v (.int .i64)] mixed es_fs3 Try.func62 rfl rfl rfl (by kernel_rfl) (by kernel_rfl) f h vs hv
def chS (l : List SDs) : Int := bif decide (fstL mayR dDl l l 0 (-1) < 0) then fstL mayB dPas l l 0 (-1) else fstL mayR dDl l l 0 (-1)
noncomputable def C_rch : Cfg := ⟨Try.prog,[],pmT [(6,([(0,[]),(1,[]),(2,[]),(3,[]),(4,[]),(5,[]),(6,[]),(7,[]),(8,[]),(9,[]),(10,[]),(11,[]),(12,[]),(13,[]),(14,[]),(15,[]),(16,[]),(17,[]),(18,[]),(19,[]),(20,[]),(21,[]),(22,[]),(23,[]),(24,[]),(25,[]),(26,[]),(27,[]),(28,[]),(29,[]),(30,[]),(31,[]),(32,[])],[(20,52)])),(12,([(0,[]),(1,[]),(2,[]),(3,[]),(4,[]),(5,[]),(6,[]),(7,[]),(8,[]),(9,[]),(10,[]),(11,[]),(12,[]),(13,[]),(14,[]),(15,[]),(16,[]),(17,[]),(18,[]),(19,[]),(20,[]),(21,[]),(22,[])],[(79,101)]))],104,[],[],[],[]⟩
theorem es_rch : EsOk Try.prog [] [] [] := es_nil
def Lt_rch : Nat → LD := ldT [(0,⟨[.box 1 1 26 3 tSSd,.c 3 (.int .i64),.c 4 (.int .i64)],[],0⟩),(2,⟨[.box 1 1 26 3 tSSd,.c 3 (.int .i64),.c 6 (.int .i64)],[],0⟩)]
noncomputable def M_rch (f : Nat) (a : SSd) : Option (Int) := (runX (C_rch) Lt_rch (Kret Try.prog [.tmp 2] [.v (.int .i64)]) f [.code (bodyOf Try.f56)] (initX [.g tSSd] a) : Option (ResT [.v (.int .i64)]))
noncomputable def L_rch_0 (f : Nat) (x : SSd × Int × Int) : Option (Int) := (runX (C_rch) Lt_rch (Kret Try.prog [.tmp 2] [.v (.int .i64)]) f (headOf Try.f56 0) ((Lt_rch 0).mk' x) : Option (ResT [.v (.int .i64)]))
noncomputable def L_rch_2 (f : Nat) (x : SSd × Int × Int) : Option (Int) := (runX (C_rch) Lt_rch (Kret Try.prog [.tmp 2] [.v (.int .i64)]) f (headOf Try.f56 2) ((Lt_rch 2).mk' x) : Option (ResT [.v (.int .i64)]))
theorem M_rch_eq (f : Nat) (s : SSd) : M_rch (f + 1) s =
  L_rch_0 f (s,-1,0) := by kernel_rfl
theorem L_rch_0_eq (f : Nat) (s : SSd) (best : Int) (i : Int) : L_rch_0 (f + 1) (s,best,i) =
  bif decide (i < (↑(List.length s.2.2) : Int)) then bif decide (0 ≤ i) && decide (i < (↑(List.length s.2.2) : Int)) then bif (List.getD s.2.2 i.toNat zQ).2.1 == 0 then bif !(List.getD s.2.2 i.toNat zQ).2.2.2.2.2.2.1 then bif !(List.getD s.2.2 i.toNat zQ).2.2.2.2.1 then bif decide ((List.getD s.2.2 i.toNat zQ).2.2.2.2.2.2.2.2.1 > 0) then bif decide (best < 0) then L_rch_0 f (s,i,IntKind.i64.wrap (i + 1)) else bif decide (0 ≤ best) && decide (best < (↑(List.length s.2.2) : Int)) then bif decide ((List.getD s.2.2 i.toNat zQ).2.2.2.2.2.2.2.1 < (List.getD s.2.2 best.toNat zQ).2.2.2.2.2.2.2.1) then L_rch_0 f (s,i,IntKind.i64.wrap (i + 1)) else L_rch_0 f (s,best,IntKind.i64.wrap (i + 1)) else none else L_rch_0 f (s,best,IntKind.i64.wrap (i + 1)) else L_rch_0 f (s,best,IntKind.i64.wrap (i + 1)) else L_rch_0 f (s,best,IntKind.i64.wrap (i + 1)) else L_rch_0 f (s,best,IntKind.i64.wrap (i + 1)) else none else L_rch_2 f (s,best,0) := by kernel_rfl
theorem L_rch_2_eq (f : Nat) (s : SSd) (best : Int) (i : Int) : L_rch_2 (f + 1) (s,best,i) =
  bif decide (i < (↑(List.length s.2.2) : Int)) then bif decide (best < 0) then bif decide (0 ≤ i) && decide (i < (↑(List.length s.2.2) : Int)) then bif (List.getD s.2.2 i.toNat zQ).2.1 != 0 then bif !(List.getD s.2.2 i.toNat zQ).2.2.2.2.1 then bif decide (best < 0) then L_rch_2 f (s,i,IntKind.i64.wrap (i + 1)) else bif decide (0 ≤ best) && decide (best < (↑(List.length s.2.2) : Int)) then bif decide ((List.getD s.2.2 i.toNat zQ).2.2.2.2.2.2.2.2.2.1 < (List.getD s.2.2 best.toNat zQ).2.2.2.2.2.2.2.2.2.1) then L_rch_2 f (s,i,IntKind.i64.wrap (i + 1)) else L_rch_2 f (s,best,IntKind.i64.wrap (i + 1)) else none else L_rch_2 f (s,best,IntKind.i64.wrap (i + 1)) else L_rch_2 f (s,best,IntKind.i64.wrap (i + 1)) else none else bif decide (0 ≤ best) && decide (best < (↑(List.length s.2.2) : Int)) then bif (List.getD s.2.2 best.toNat zQ).2.1 != 0 then bif decide (0 ≤ i) && decide (i < (↑(List.length s.2.2) : Int)) then bif (List.getD s.2.2 i.toNat zQ).2.1 != 0 then bif !(List.getD s.2.2 i.toNat zQ).2.2.2.2.1 then bif decide (best < 0) then L_rch_2 f (s,i,IntKind.i64.wrap (i + 1)) else bif decide (0 ≤ best) && decide (best < (↑(List.length s.2.2) : Int)) then bif decide ((List.getD s.2.2 i.toNat zQ).2.2.2.2.2.2.2.2.2.1 < (List.getD s.2.2 best.toNat zQ).2.2.2.2.2.2.2.2.2.1) then L_rch_2 f (s,i,IntKind.i64.wrap (i + 1)) else L_rch_2 f (s,best,IntKind.i64.wrap (i + 1)) else none else L_rch_2 f (s,best,IntKind.i64.wrap (i + 1)) else L_rch_2 f (s,best,IntKind.i64.wrap (i + 1)) else none else some best else none else some best := by kernel_rfl
noncomputable def F_rch_2 : List (Int × Int × Int × Int × Bool × Bool × Bool × Int × Int × Int × (List (Int))) → (SSd × Int × Nat) → Int
 | [],(s,best,i) => best
 | uu :: rest,(s,best,i) => bif decide (best < 0) then bif uu.2.1 != 0 then bif !uu.2.2.2.2.1 then bif decide (best < 0) then F_rch_2 rest (s,(↑i : Int),i + 1) else bif decide (uu.2.2.2.2.2.2.2.2.2.1 < (List.getD s.2.2 best.toNat zQ).2.2.2.2.2.2.2.2.2.1) then F_rch_2 rest (s,(↑i : Int),i + 1) else F_rch_2 rest (s,best,i + 1) else F_rch_2 rest (s,best,i + 1) else F_rch_2 rest (s,best,i + 1) else bif (List.getD s.2.2 best.toNat zQ).2.1 != 0 then bif uu.2.1 != 0 then bif !uu.2.2.2.2.1 then bif decide (best < 0) then F_rch_2 rest (s,(↑i : Int),i + 1) else bif decide (uu.2.2.2.2.2.2.2.2.2.1 < (List.getD s.2.2 best.toNat zQ).2.2.2.2.2.2.2.2.2.1) then F_rch_2 rest (s,(↑i : Int),i + 1) else F_rch_2 rest (s,best,i + 1) else F_rch_2 rest (s,best,i + 1) else F_rch_2 rest (s,best,i + 1) else best
noncomputable def P_rch_2 : List (Int × Int × Int × Int × Bool × Bool × Bool × Int × Int × Int × (List (Int))) → (SSd × Int × Nat) → Bool
 | [],(s,best,i) => true
 | uu :: rest,(s,best,i) => bif decide (best < 0) then bif uu.2.1 != 0 then bif !uu.2.2.2.2.1 then bif decide (best < 0) then P_rch_2 rest (s,(↑i : Int),i + 1) else decide (0 ≤ best) && decide (best < (↑(List.length s.2.2) : Int)) && bif decide (uu.2.2.2.2.2.2.2.2.2.1 < (List.getD s.2.2 best.toNat zQ).2.2.2.2.2.2.2.2.2.1) then P_rch_2 rest (s,(↑i : Int),i + 1) else P_rch_2 rest (s,best,i + 1) else P_rch_2 rest (s,best,i + 1) else P_rch_2 rest (s,best,i + 1) else decide (0 ≤ best) && decide (best < (↑(List.length s.2.2) : Int)) && bif (List.getD s.2.2 best.toNat zQ).2.1 != 0 then bif uu.2.1 != 0 then bif !uu.2.2.2.2.1 then bif decide (best < 0) then P_rch_2 rest (s,(↑i : Int),i + 1) else decide (0 ≤ best) && decide (best < (↑(List.length s.2.2) : Int)) && bif decide (uu.2.2.2.2.2.2.2.2.2.1 < (List.getD s.2.2 best.toNat zQ).2.2.2.2.2.2.2.2.2.1) then P_rch_2 rest (s,(↑i : Int),i + 1) else P_rch_2 rest (s,best,i + 1) else P_rch_2 rest (s,best,i + 1) else P_rch_2 rest (s,best,i + 1) else true
theorem A_rch_2 : ∀ (rest : List (Int × Int × Int × Int × Bool × Bool × Bool × Int × Int × Int × (List (Int)))) (s : SSd) (best : Int) (i : Nat) (hd : s.snd.snd.drop i = rest) (hl : s.snd.snd.length ≤ 1099511627776),Rns (fun f => L_rch_2 f (s,best,((i : Nat) : Int))) (P_rch_2 rest (s,best,i)) (F_rch_2 rest (s,best,i))
 | [],s,best,i,hd,hl => ev_step (T := fun f => some best) (fun f => (L_rch_2_eq f _ _ _).trans (by simp only [ge_dec (drop_ge hd),ge0,Bool.and_self,Bool.true_and,cond_true,cond_false,List.length_set] <;> rfl)) ev_some
 | uu :: rest,s,best,i,hd,hl => ev_step (T := fun f => bif decide (best < 0) then bif uu.2.1 != 0 then bif !uu.2.2.2.2.1 then bif decide (best < 0) then L_rch_2 f (s,(↑i : Int),(↑(i + 1) : Int)) else bif decide (0 ≤ best) && decide (best < (↑(List.length s.2.2) : Int)) then bif decide (uu.2.2.2.2.2.2.2.2.2.1 < (List.getD s.2.2 best.toNat zQ).2.2.2.2.2.2.2.2.2.1) then L_rch_2 f (s,(↑i : Int),(↑(i + 1) : Int)) else L_rch_2 f (s,best,(↑(i + 1) : Int)) else none else L_rch_2 f (s,best,(↑(i + 1) : Int)) else L_rch_2 f (s,best,(↑(i + 1) : Int)) else bif decide (0 ≤ best) && decide (best < (↑(List.length s.2.2) : Int)) then bif (List.getD s.2.2 best.toNat zQ).2.1 != 0 then bif uu.2.1 != 0 then bif !uu.2.2.2.2.1 then bif decide (best < 0) then L_rch_2 f (s,(↑i : Int),(↑(i + 1) : Int)) else bif decide (0 ≤ best) && decide (best < (↑(List.length s.2.2) : Int)) then bif decide (uu.2.2.2.2.2.2.2.2.2.1 < (List.getD s.2.2 best.toNat zQ).2.2.2.2.2.2.2.2.2.1) then L_rch_2 f (s,(↑i : Int),(↑(i + 1) : Int)) else L_rch_2 f (s,best,(↑(i + 1) : Int)) else none else L_rch_2 f (s,best,(↑(i + 1) : Int)) else L_rch_2 f (s,best,(↑(i + 1) : Int)) else some best else none) (fun f => (L_rch_2_eq f _ _ _).trans (by simp only [lt_dec (drop_lt hd),drop_get hd,wrap_succ (drop_lt hd) hl,getD_set (drop_lt hd),ge0,Bool.and_self,Bool.true_and,cond_true,cond_false,List.length_set] <;> rfl)) (ev_bif (ev_bif (ev_bif (ev_bif (A_rch_2 rest _ _ _ (by first | exact drop_succ hd | exact drop_set hd | exact drop_setS (drop_set hd)) (by first | exact hl | simpa using hl)) (ev_chk (ev_bif (A_rch_2 rest _ _ _ (by first | exact drop_succ hd | exact drop_set hd | exact drop_setS (drop_set hd)) (by first | exact hl | simpa using hl)) (A_rch_2 rest _ _ _ (by first | exact drop_succ hd | exact drop_set hd | exact drop_setS (drop_set hd)) (by first | exact hl | simpa using hl))))) (A_rch_2 rest _ _ _ (by first | exact drop_succ hd | exact drop_set hd | exact drop_setS (drop_set hd)) (by first | exact hl | simpa using hl))) (A_rch_2 rest _ _ _ (by first | exact drop_succ hd | exact drop_set hd | exact drop_setS (drop_set hd)) (by first | exact hl | simpa using hl))) (ev_chk (ev_bif (ev_bif (ev_bif (ev_bif (A_rch_2 rest _ _ _ (by first | exact drop_succ hd | exact drop_set hd | exact drop_setS (drop_set hd)) (by first | exact hl | simpa using hl)) (ev_chk (ev_bif (A_rch_2 rest _ _ _ (by first | exact drop_succ hd | exact drop_set hd | exact drop_setS (drop_set hd)) (by first | exact hl | simpa using hl)) (A_rch_2 rest _ _ _ (by first | exact drop_succ hd | exact drop_set hd | exact drop_setS (drop_set hd)) (by first | exact hl | simpa using hl))))) (A_rch_2 rest _ _ _ (by first | exact drop_succ hd | exact drop_set hd | exact drop_setS (drop_set hd)) (by first | exact hl | simpa using hl))) (A_rch_2 rest _ _ _ (by first | exact drop_succ hd | exact drop_set hd | exact drop_setS (drop_set hd)) (by first | exact hl | simpa using hl))) ev_some)))
noncomputable def F_rch_0 : List (Int × Int × Int × Int × Bool × Bool × Bool × Int × Int × Int × (List (Int))) → (SSd × Int × Nat) → Int
 | [],(s,best,i) => F_rch_2 s.2.2 (s,best,0)
 | uu :: rest,(s,best,i) => bif uu.2.1 == 0 then bif !uu.2.2.2.2.2.2.1 then bif !uu.2.2.2.2.1 then bif decide (uu.2.2.2.2.2.2.2.2.1 > 0) then bif decide (best < 0) then F_rch_0 rest (s,(↑i : Int),i + 1) else bif decide (uu.2.2.2.2.2.2.2.1 < (List.getD s.2.2 best.toNat zQ).2.2.2.2.2.2.2.1) then F_rch_0 rest (s,(↑i : Int),i + 1) else F_rch_0 rest (s,best,i + 1) else F_rch_0 rest (s,best,i + 1) else F_rch_0 rest (s,best,i + 1) else F_rch_0 rest (s,best,i + 1) else F_rch_0 rest (s,best,i + 1)
noncomputable def P_rch_0 : List (Int × Int × Int × Int × Bool × Bool × Bool × Int × Int × Int × (List (Int))) → (SSd × Int × Nat) → Bool
 | [],(s,best,i) => decide (s.2.2.length ≤ 1099511627776) && P_rch_2 s.2.2 (s,best,0)
 | uu :: rest,(s,best,i) => bif uu.2.1 == 0 then bif !uu.2.2.2.2.2.2.1 then bif !uu.2.2.2.2.1 then bif decide (uu.2.2.2.2.2.2.2.2.1 > 0) then bif decide (best < 0) then P_rch_0 rest (s,(↑i : Int),i + 1) else decide (0 ≤ best) && decide (best < (↑(List.length s.2.2) : Int)) && bif decide (uu.2.2.2.2.2.2.2.1 < (List.getD s.2.2 best.toNat zQ).2.2.2.2.2.2.2.1) then P_rch_0 rest (s,(↑i : Int),i + 1) else P_rch_0 rest (s,best,i + 1) else P_rch_0 rest (s,best,i + 1) else P_rch_0 rest (s,best,i + 1) else P_rch_0 rest (s,best,i + 1) else P_rch_0 rest (s,best,i + 1)
theorem A_rch_0 : ∀ (rest : List (Int × Int × Int × Int × Bool × Bool × Bool × Int × Int × Int × (List (Int)))) (s : SSd) (best : Int) (i : Nat) (hd : s.snd.snd.drop i = rest) (hl : s.snd.snd.length ≤ 1099511627776),Rns (fun f => L_rch_0 f (s,best,((i : Nat) : Int))) (P_rch_0 rest (s,best,i)) (F_rch_0 rest (s,best,i))
 | [],s,best,i,hd,hl => ev_step (T := fun f => L_rch_2 f (s,best,0)) (fun f => (L_rch_0_eq f _ _ _).trans (by simp only [ge_dec (drop_ge hd),ge0,Bool.and_self,Bool.true_and,cond_true,cond_false,List.length_set] <;> rfl)) (ev_and fun hh => A_rch_2 _ _ _ _ rfl (of_decide_eq_true hh))
 | uu :: rest,s,best,i,hd,hl => ev_step (T := fun f => bif uu.2.1 == 0 then bif !uu.2.2.2.2.2.2.1 then bif !uu.2.2.2.2.1 then bif decide (uu.2.2.2.2.2.2.2.2.1 > 0) then bif decide (best < 0) then L_rch_0 f (s,(↑i : Int),(↑(i + 1) : Int)) else bif decide (0 ≤ best) && decide (best < (↑(List.length s.2.2) : Int)) then bif decide (uu.2.2.2.2.2.2.2.1 < (List.getD s.2.2 best.toNat zQ).2.2.2.2.2.2.2.1) then L_rch_0 f (s,(↑i : Int),(↑(i + 1) : Int)) else L_rch_0 f (s,best,(↑(i + 1) : Int)) else none else L_rch_0 f (s,best,(↑(i + 1) : Int)) else L_rch_0 f (s,best,(↑(i + 1) : Int)) else L_rch_0 f (s,best,(↑(i + 1) : Int)) else L_rch_0 f (s,best,(↑(i + 1) : Int))) (fun f => (L_rch_0_eq f _ _ _).trans (by simp only [lt_dec (drop_lt hd),drop_get hd,wrap_succ (drop_lt hd) hl,getD_set (drop_lt hd),ge0,Bool.and_self,Bool.true_and,cond_true,cond_false,List.length_set] <;> rfl)) (ev_bif (ev_bif (ev_bif (ev_bif (ev_bif (A_rch_0 rest _ _ _ (by first | exact drop_succ hd | exact drop_set hd | exact drop_setS (drop_set hd)) (by first | exact hl | simpa using hl)) (ev_chk (ev_bif (A_rch_0 rest _ _ _ (by first | exact drop_succ hd | exact drop_set hd | exact drop_setS (drop_set hd)) (by first | exact hl | simpa using hl)) (A_rch_0 rest _ _ _ (by first | exact drop_succ hd | exact drop_set hd | exact drop_setS (drop_set hd)) (by first | exact hl | simpa using hl))))) (A_rch_0 rest _ _ _ (by first | exact drop_succ hd | exact drop_set hd | exact drop_setS (drop_set hd)) (by first | exact hl | simpa using hl))) (A_rch_0 rest _ _ _ (by first | exact drop_succ hd | exact drop_set hd | exact drop_setS (drop_set hd)) (by first | exact hl | simpa using hl))) (A_rch_0 rest _ _ _ (by first | exact drop_succ hd | exact drop_set hd | exact drop_setS (drop_set hd)) (by first | exact hl | simpa using hl))) (A_rch_0 rest _ _ _ (by first | exact drop_succ hd | exact drop_set hd | exact drop_setS (drop_set hd)) (by first | exact hl | simpa using hl)))
noncomputable def F_rch : SSd → Int
 | s => F_rch_0 s.2.2 (s,-1,0)
noncomputable def P_rch : SSd → Bool
 | s => decide (s.2.2.length ≤ 1099511627776) && P_rch_0 s.2.2 (s,-1,0)
theorem rch_auto : ∀ a : SSd,Rns (fun f => M_rch f a) (P_rch a) (F_rch a)
 | s => ev_step (fun f => M_rch_eq f _) (ev_and fun hh => A_rch_0 _ _ _ _ rfl (of_decide_eq_true hh))
theorem rch_2 (s : SSd) : ∀ (r : List SDs) (k : Nat) (b : Int),s.2.2.drop k = r → b < ((s.2.2.length : Nat) : Int) → (b < 0 ∨ (0 ≤ b ∧ decide (dW (s.2.2.getD b.toNat zDs) = 0) = false)) → F_rch_2 r (s,b,k) = fstL mayB dPas s.2.2 r k b ∧ P_rch_2 r (s,b,k) = true
 | [],k,b,h,hb,_ => ⟨rfl,rfl⟩
 | d :: r,k,b,h,hb,hw => by
  obtain ⟨h1,h2,h3⟩ := drop_get2 zDs h
  obtain ⟨i1,i2⟩ := rch_2 s r (k + 1) b h3 hb hw
  have ez : List.getD s.2.2 b.toNat zQ = s.2.2.getD b.toNat zDs := rfl
  cases hd : decide (d.2.1 = 0)
  case true =>
   have hm : mayB d = false := by unfold mayB; rw [show decide (dW d = 0) = true from hd]; rfl
   simp only [F_rch_2,P_rch_2,fstL,i1,i2,ez,hm,hd,bneD]
   rcases hw with hw | ⟨hw,hw2⟩
   ·rw [decide_eq_true hw]; exact ⟨rfl,rfl⟩
   ·rw [decide_eq_false (show ¬ b < 0 by omega),decide_eq_true hw,decide_eq_true hb,hw2]; exact ⟨rfl,rfl⟩
  case false =>
   obtain ⟨j1,j2⟩ := rch_2 s r (k + 1) ((k : Nat) : Int) h3 (by omega) (.inr ⟨by omega,by rw [Int.toNat_natCast,h2]; exact hd⟩)
   have hm : mayB d = !d.2.2.2.2.1 := by unfold mayB; rw [show decide (dW d = 0) = false from hd]; rfl
   simp only [F_rch_2,P_rch_2,fstL,i1,i2,j1,j2,ez,hm,hd,bneD]
   rcases hw with hw | ⟨hw,hw2⟩
   ·rw [decide_eq_true hw]
    cases d.2.2.2.2.1 <;> exact ⟨rfl,rfl⟩
   ·rw [decide_eq_false (show ¬ b < 0 by omega),decide_eq_true hw,decide_eq_true hb,hw2]
    cases d.2.2.2.2.1
    ·cases decide (dPas d < dPas (s.2.2.getD b.toNat zDs)) <;> exact ⟨rfl,rfl⟩
    ·exact ⟨rfl,rfl⟩
theorem rch_rt (s : SSd) {b : Int} (hb0 : 0 ≤ b) (hb : b < ((s.2.2.length : Nat) : Int)) (hw : decide (dW (s.2.2.getD b.toNat zDs) = 0) = true) : ∀ (r : List SDs) (k : Nat),F_rch_2 r (s,b,k) = b ∧ P_rch_2 r (s,b,k) = true
 | [],k => ⟨rfl,rfl⟩
 | d :: r,k => by
  have ez : List.getD s.2.2 b.toNat zQ = s.2.2.getD b.toNat zDs := rfl
  simp only [F_rch_2,P_rch_2,ez,bneD]
  rw [decide_eq_false (show ¬ b < 0 by omega),decide_eq_true hb0,decide_eq_true hb,hw]; exact ⟨rfl,rfl⟩
theorem rch_0 (s : SSd) (hl : s.2.2.length ≤ 1000) : ∀ (r : List SDs) (k : Nat) (b : Int),s.2.2.drop k = r → b < ((s.2.2.length : Nat) : Int) → (b = -1 ∨ (0 ≤ b ∧ decide (dW (s.2.2.getD b.toNat zDs) = 0) = true)) → F_rch_0 r (s,b,k) = (bif decide (fstL mayR dDl s.2.2 r k b < 0) then fstL mayB dPas s.2.2 s.2.2 0 (-1) else fstL mayR dDl s.2.2 r k b) ∧ P_rch_0 r (s,b,k) = true
 | [],k,b,h,hb,hw => by
  have e40 : decide (s.2.2.length ≤ 1099511627776) = true := decide_eq_true (by omega)
  show F_rch_2 s.2.2 (s,b,0) = (bif decide (b < 0) then fstL mayB dPas s.2.2 s.2.2 0 (-1) else b) ∧ (decide (s.2.2.length ≤ 1099511627776) && P_rch_2 s.2.2 (s,b,0)) = true
  rw [e40]
  rcases hw with rfl | ⟨hw,hw2⟩
  ·obtain ⟨i1,i2⟩ := rch_2 s s.2.2 0 (-1) rfl hb (.inl (by omega))
   rw [i1,i2]; exact ⟨rfl,rfl⟩
  ·obtain ⟨i1,i2⟩ := rch_rt s hw hb hw2 s.2.2 0
   rw [i1,i2,decide_eq_false (show ¬ b < 0 by omega)]; exact ⟨rfl,rfl⟩
 | d :: r,k,b,h,hb,hw => by
  obtain ⟨h1,h2,h3⟩ := drop_get2 zDs h
  obtain ⟨i1,i2⟩ := rch_0 s hl r (k + 1) b h3 hb hw
  have ez : List.getD s.2.2 b.toNat zQ = s.2.2.getD b.toNat zDs := rfl
  cases hm : mayR d
  case false =>
   have hm2 := hm
   unfold mayR at hm2
   simp only [dW,dRem,dBlk,dLft] at hm2
   simp only [F_rch_0,P_rch_0,fstL,i1,i2,ez,hm,beqD]
   cases a1 : decide (d.2.1 = 0)
   ·exact ⟨rfl,rfl⟩
   cases a2 : d.2.2.2.2.2.2.1
   case true => exact ⟨rfl,rfl⟩
   cases a3 : d.2.2.2.2.1
   case true => exact ⟨rfl,rfl⟩
   rw [a1,a2,a3] at hm2
   have a4 : decide (d.2.2.2.2.2.2.2.2.1 > 0) = false := hm2
   rw [a4]; exact ⟨rfl,rfl⟩
  case true =>
   have hm2 := hm
   unfold mayR at hm2
   simp only [dW,dRem,dBlk,dLft,Bool.and_eq_true,Bool.not_eq_true'] at hm2
   obtain ⟨a1,a2,a3,a4⟩ := hm2
   obtain ⟨j1,j2⟩ := rch_0 s hl r (k + 1) ((k : Nat) : Int) h3 (by omega) (.inr ⟨by omega,by rw [Int.toNat_natCast,h2]; exact a1⟩)
   simp only [F_rch_0,P_rch_0,fstL,i1,i2,j1,j2,ez,hm,a1,a2,a3,a4,beqD]
   rcases hw with rfl | ⟨hw,hw2⟩
   ·exact ⟨rfl,rfl⟩
   ·rw [decide_eq_false (show ¬ b < 0 by omega),decide_eq_true hw,decide_eq_true hb]
    cases decide (dDl d < dDl (s.2.2.getD b.toNat zDs)) <;> exact ⟨rfl,rfl⟩
theorem rch_both : ∀ s : SSd,(fun s : SSd => decide (s.2.2.length ≤ 1000)) s = true → P_rch s = true ∧ F_rch s = chS s.2.2 := fun s h => by
 have hl : s.2.2.length ≤ 1000 := of_decide_eq_true h
 obtain ⟨i1,i2⟩ := rch_0 s hl s.2.2 0 (-1) rfl (by omega) (.inl rfl)
 simp only [P_rch,F_rch,i1,i2,Bool.and_true]
 exact ⟨decide_eq_true (by omega),rfl⟩
theorem rch_P : ∀ s : SSd,(fun s : SSd => decide (s.2.2.length ≤ 1000)) s = true → P_rch s = true := fun s h => (rch_both s h).1
theorem rch_F : ∀ s : SSd,(fun s : SSd => decide (s.2.2.length ≤ 1000)) s = true → F_rch s = (fun s : SSd => chS s.2.2) s := fun s h => (rch_both s h).2
theorem rch_run : ∀ a,(fun s : SSd => decide (s.2.2.length ≤ 1000) : SSd → Bool) a = true → ∃ f,M_rch f a = some ((fun s : SSd => chS s.2.2 : SSd → Int) a) := fun a h => by have h1 := rch_auto a (rch_P a h); rw [rch_F a h] at h1; exact h1
noncomputable def E_rch : Ent := ⟨56,[.g tSSd],[.v (.int .i64)],fun a => (fun s : SSd => decide (s.2.2.length ≤ 1000) : SSd → Bool) a,fun a => (fun s : SSd => chS s.2.2 : SSd → Int) a⟩
theorem E_rch_ok : E_rch.Ok Try.prog := fun a hp vs hv => (rch_run a hp).elim fun f h => fnX_ok (C := C_rch) (Lt := Lt_rch) (fn := Try.f56) (rs := [.tmp 2]) [.g tSSd] [.v (.int .i64)] mixed es_rch Try.func56 rfl rfl rfl (by kernel_rfl) (by kernel_rfl) f h vs hv
end Go.AL
namespace Go.AL
open Go.Proofs
def zSs : SSd := (0,0,[])
def insL (d : SDs) : List SDs → List SDs
 | [] => [d]
 | e :: r => bif decide (e.1 < d.1) then e :: insL d r else d :: e :: r
def newDs (s : SSd) (id w p b : Int) : SDs := (id,w,p,b,false,false,false,(bif decide (w = 0) && perB p then s.1 + p else 0),b,(bif decide (w = 0) then 0 else s.2.1),[])
def addS (a : SSd × Int × Int × Int × Int) : SSd × Int :=
 bif !valS a.1 then (zSs,74) else bif !vdiS (newDs a.1 a.2.1 a.2.2.1 a.2.2.2.1 a.2.2.2.2,a.1.1,a.1.2.1) then (zSs,1) else bif a.1.2.2.any (fun d => decide (d.1 = a.2.1)) then (zSs,56) else
 bif decide (utS (insL (newDs a.1 a.2.1 a.2.2.1 a.2.2.2.1 a.2.2.2.2) a.1.2.2) > 1024) then (zSs,15) else ((a.1.1,a.1.2.1,insL (newDs a.1 a.2.1 a.2.2.1 a.2.2.2.1 a.2.2.2.2) a.1.2.2),0)
def opnI (id : Int) : List SDs → Nat → Int
 | [],_ => -1
 | d :: r,k => bif decide (d.1 = id) && !dRem d then ((k : Nat) : Int) else opnI id r (k + 1)
def chgS (s : SSd) (id : Int) (f : SDs → List SDs × Int) : SSd × Int :=
 bif !valS s then (zSs,74) else bif decide (opnI id s.2.2 0 < 0) then (zSs,17) else
 bif !decide ((f (s.2.2.getD (opnI id s.2.2 0).toNat zDs)).2 = 0) then (zSs,(f (s.2.2.getD (opnI id s.2.2 0).toNat zDs)).2) else
 ((s.1,s.2.1,s.2.2.take (opnI id s.2.2 0).toNat ++ (f (s.2.2.getD (opnI id s.2.2 0).toNat zDs)).1 ++ s.2.2.drop ((opnI id s.2.2 0).toNat + 1)),0)
def remF (d : SDs) : List SDs × Int := bif decide (dW d = 0) then ([(dId d,dW d,dPer d,dBud d,dBlk d,false,true,dDl d,dLft d,dPas d,[])],0) else ([],0)
def blkF (d : SDs) : List SDs × Int := ([(dId d,dW d,dPer d,dBud d,true,dDis d,dRem d,dDl d,dLft d,dPas d,ups d)],0)
def wakD (s : SSd) (d : SDs) : SDs := bif !dBlk d then d else bif decide (dW d = 0) then (dId d,dW d,dPer d,dBud d,false,dDis d,dRem d,dDl d,min (dLft d) (dBud d * (dDl d - s.1) / dPer d),dPas d,ups d) else (dId d,dW d,dPer d,dBud d,false,dDis d,dRem d,dDl d,dLft d,max (dPas d) s.2.1,ups d)
def wakF (s : SSd) (d : SDs) : List SDs × Int := ([wakD s d],0)
def pstF (e : Int) (d : SDs) : List SDs × Int := bif decide (e ≤ 0) then ([],1) else bif decide ((ups d).length ≥ 16) then ([],65) else ([(dId d,dW d,dPer d,dBud d,dBlk d,dDis d,dRem d,dDl d,dLft d,dPas d,ups d ++ [e])],0)
def enaF (d : SDs) : List SDs × Int := ([(dId d,dW d,dPer d,dBud d,dBlk d,false,dRem d,dDl d,dLft d,dPas d,ups d)],0)
structure Vs (n v : Int) (l : List SDs) : Prop where
 rng : rngB n v = true
 len : l.length ≤ 32
 all : ∀ d ∈ l,vdiS (d,n,v) = true
 srt : l.Pairwise (fun a b => a.1 < b.1)
 ut : utS l ≤ 1024
theorem valS_iff (s : SSd) : valS s = true ↔ Vs s.1 s.2.1 s.2.2 := by
 simp only [valS,Bool.and_eq_true,decide_eq_true_eq,chkL_iff]
 constructor
 ·rintro ⟨h1,h2,⟨h3,h4⟩,h5⟩
  exact ⟨h1,h2,fun d hd => (h3 d hd).1,h4,h5⟩
 ·rintro ⟨h1,h2,h3,h4,h5⟩
  exact ⟨h1,h2,⟨fun d hd => ⟨h3 d hd,rfl⟩,h4⟩,h5⟩
theorem utS_app : ∀ l r : List SDs,utS (l ++ r) = utS l + utS r
 | [],r => by simp [utS]
 | d :: l,r => by simp only [List.cons_append,utS,utS_app l r]; omega
theorem opn_split {id : Int} : ∀ {l : List SDs} {k : Nat},¬ opnI id l k < 0 → ∃ A d B,l = A ++ d :: B ∧ opnI id l k = ((k + A.length : Nat) : Int) ∧ d.1 = id ∧ dRem d = false
 | [],k,h => absurd (by show (-1 : Int) < 0; omega) h
 | d :: r,k,h => by
  rw [opnI] at h ⊢
  cases hc : decide (d.1 = id) && !dRem d
  ·rw [hc,cond_false] at h
   obtain ⟨A,e,B,h1,h2,h3⟩ := opn_split h
   rw [cond_false]
   exact ⟨d :: A,e,B,by rw [h1]; rfl,by rw [h2,List.length_cons]; congr 1; omega,h3⟩
  ·simp only [Bool.and_eq_true,decide_eq_true_eq,Bool.not_eq_true'] at hc
   exact ⟨[],d,r,rfl,rfl,hc.1,hc.2⟩
def RepOK (n v : Int) (d : SDs) (r : List SDs) : Prop := (r = [] ∧ 0 ≤ shD d) ∨ ∃ d',r = [d'] ∧ d'.1 = d.1 ∧ vdiS (d',n,v) = true ∧ shD d' = shD d
theorem Vs.rep {n v : Int} {A B : List SDs} {d : SDs} {r : List SDs} (h : Vs n v (A ++ d :: B)) (hr : RepOK n v d r) : Vs n v (A ++ r ++ B) := by
 obtain ⟨s1,s2,s3⟩ := List.pairwise_append.1 h.srt
 rw [List.pairwise_cons] at s2
 have hu := h.ut
 rw [utS_app] at hu
 have hu2 : utS A + (shD d + utS B) ≤ 1024 := hu
 have hl := h.len
 rw [List.length_append,List.length_cons] at hl
 rcases hr with ⟨rfl,h0⟩ | ⟨d',rfl,e1,e2,e3⟩
 ·rw [List.append_nil]
  refine ⟨h.rng,by rw [List.length_append]; omega,fun e he => h.all e ?_,List.pairwise_append.2 ⟨s1,s2.2,fun a ha b hb => s3 a ha b (List.mem_cons_of_mem _ hb)⟩,by rw [utS_app]; omega⟩
  rcases List.mem_append.1 he with he | he
  ·exact List.mem_append_left _ he
  ·exact List.mem_append_right _ (List.mem_cons_of_mem _ he)
 ·rw [List.append_assoc]
  refine ⟨h.rng,by rw [List.length_append]; simp; omega,fun e he => ?_,List.pairwise_append.2 ⟨s1,List.pairwise_cons.2 ⟨fun b hb => by rw [e1]; exact s2.1 b hb,s2.2⟩,fun a ha b hb => ?_⟩,?_⟩
  ·rcases List.mem_append.1 he with he | he
   ·exact h.all e (List.mem_append_left _ he)
   ·rcases List.mem_cons.1 he with rfl | he
    ·exact e2
    ·exact h.all e (List.mem_append_right _ (List.mem_cons_of_mem _ he))
  ·rcases List.mem_cons.1 hb with rfl | hb
   ·rw [e1]; exact s3 a ha d (List.mem_cons_self ..)
   ·exact s3 a ha b (List.mem_cons_of_mem _ hb)
  ·rw [utS_app]
   show utS A + (shD d' + utS B) ≤ 1024
   omega
theorem chg_val {s : SSd} {id : Int} {f : SDs → List SDs × Int} (hf : ∀ d,d ∈ s.2.2 → dRem d = false → vdiS (d,s.1,s.2.1) = true → (f d).2 = 0 → RepOK s.1 s.2.1 d (f d).1) (h0 : (chgS s id f).2 = 0) :
  valS (chgS s id f).1 = true ∧ (chgS s id f).1.1 = s.1 ∧ (chgS s id f).1.2.1 = s.2.1 := by
 unfold chgS at h0 ⊢
 cases hv : valS s
 case false => rw [hv] at h0; exact absurd h0 (by show ¬ (74 : Int) = 0; omega)
 cases ho : decide (opnI id s.2.2 0 < 0)
 case true => rw [hv,ho] at h0; exact absurd h0 (by show ¬ (17 : Int) = 0; omega)
 have V := (valS_iff s).1 hv
 obtain ⟨A,d,B,e1,e2,e3,e4⟩ := opn_split (of_decide_eq_false ho)
 rw [Nat.zero_add] at e2
 rw [e2,Int.toNat_natCast] at h0 ⊢
 have g1 : s.2.2.getD A.length zDs = d := by rw [e1]; simp
 have g2 : s.2.2.take A.length = A := by rw [e1,List.take_left]
 have g3 : s.2.2.drop (A.length + 1) = B := by
  rw [e1,show A.length + 1 = (A ++ [d]).length by simp,show A ++ d :: B = (A ++ [d]) ++ B by simp,List.drop_left]
 rw [g1] at h0 ⊢
 cases hz : decide ((f d).2 = 0)
 case false => rw [hv,hz] at h0; rw [e2] at ho; rw [ho] at h0; exact absurd h0 (of_decide_eq_false hz)
 rw [e2] at ho
 rw [g2,g3]
 have hd : d ∈ s.2.2 := by rw [e1]; simp
 rw [e1] at V
 refine ⟨(valS_iff _).2 (V.rep (hf d hd e4 (V.all d (by simp)) (of_decide_eq_true hz))),rfl,rfl⟩
theorem sh_same {d d' : SDs} (h1 : dW d' = dW d) (h2 : dPer d' = dPer d) (h3 : dBud d' = dBud d) : shD d' = shD d := by
 unfold shD; rw [h1,h2,h3]
theorem rem_ok {n v : Int} {d : SDs} (h : vdiS (d,n,v) = true) : RepOK n v d (remF d).1 := by
 unfold remF
 cases hw : decide (dW d = 0)
 ·refine .inl ⟨rfl,?_⟩
  unfold shD; rw [hw]; exact Int.le_refl _
 ·refine .inr ⟨_,rfl,rfl,?_,sh_same rfl rfl rfl⟩
  obtain ⟨d1,d2,d3,d4,d5,d6,d7,d8,d9,d10,d11⟩ := d
  have hw : decide (d2 = 0) = true := hw
  simp only [vdiS,upB,corB,rtB,beB,dId,dW,dPer,dBud,dBlk,dDis,dRem,dDl,dLft,dPas,ups,hw,cond_true] at h ⊢
  simp at h ⊢
  grind
theorem blk_ok {n v : Int} {d : SDs} (h : vdiS (d,n,v) = true) : RepOK n v d (blkF d).1 := by
 refine .inr ⟨_,rfl,rfl,?_,sh_same rfl rfl rfl⟩
 obtain ⟨d1,d2,d3,d4,d5,d6,d7,d8,d9,d10,d11⟩ := d
 simp only [vdiS,upB,corB,rtB,beB,dId,dW,dPer,dBud,dBlk,dDis,dRem,dDl,dLft,dPas,ups] at h ⊢
 cases hw : decide (d2 = 0) <;> simp only [hw,cond_true,cond_false] at h ⊢ <;> simp at h ⊢ <;> grind
theorem ena_ok {n v : Int} {d : SDs} (h : vdiS (d,n,v) = true) (hr : dRem d = false) : RepOK n v d (enaF d).1 := by
 refine .inr ⟨_,rfl,rfl,?_,sh_same rfl rfl rfl⟩
 obtain ⟨d1,d2,d3,d4,d5,d6,d7,d8,d9,d10,d11⟩ := d
 have hr : d7 = false := hr
 subst hr
 simp only [vdiS,upB,corB,rtB,beB,dId,dW,dPer,dBud,dBlk,dDis,dRem,dDl,dLft,dPas,ups] at h ⊢
 cases hw : decide (d2 = 0) <;> simp only [hw,cond_true,cond_false] at h ⊢ <;> simp at h ⊢ <;> grind
theorem pst_ok {n v e : Int} {d : SDs} (h : vdiS (d,n,v) = true) (hr : dRem d = false) (hz : (pstF e d).2 = 0) : RepOK n v d (pstF e d).1 := by
 unfold pstF at hz ⊢
 cases h1 : decide (e ≤ 0)
 case true => rw [h1] at hz; exact absurd hz (by show ¬ (1 : Int) = 0; omega)
 cases h2 : decide ((ups d).length ≥ 16)
 case true => rw [h1,h2] at hz; exact absurd hz (by show ¬ (65 : Int) = 0; omega)
 refine .inr ⟨_,rfl,rfl,?_,sh_same rfl rfl rfl⟩
 have h1 := of_decide_eq_false h1
 have h2 := of_decide_eq_false h2
 obtain ⟨d1,d2,d3,d4,d5,d6,d7,d8,d9,d10,d11⟩ := d
 have hr : d7 = false := hr
 subst hr
 simp only [vdiS,upB,corB,rtB,beB,dId,dW,dPer,dBud,dBlk,dDis,dRem,dDl,dLft,dPas,ups] at h h2 ⊢
 cases hw : decide (d2 = 0) <;> simp only [hw,cond_true,cond_false] at h ⊢ <;> simp at h ⊢ <;> grind
theorem wak_ok {s : SSd} {d : SDs} (h : vdiS (d,s.1,s.2.1) = true) : RepOK s.1 s.2.1 d (wakF s d).1 := by
 unfold wakF wakD
 cases hb : dBlk d
 ·exact .inr ⟨d,rfl,rfl,h,rfl⟩
 cases hw : decide (dW d = 0)
 ·refine .inr ⟨_,rfl,rfl,?_,sh_same rfl rfl rfl⟩
  obtain ⟨d1,d2,d3,d4,d5,d6,d7,d8,d9,d10,d11⟩ := d
  have hw : decide (d2 = 0) = false := hw
  simp only [vdiS,upB,corB,rtB,beB,dId,dW,dPer,dBud,dBlk,dDis,dRem,dDl,dLft,dPas,ups,hw,cond_false,Bool.not_true] at h ⊢
  simp at h ⊢
  have : d10 ≤ max d10 s.2.1 := Int.le_max_left ..
  have : s.2.1 ≤ max d10 s.2.1 := Int.le_max_right ..
  have : max d10 s.2.1 ≤ s.2.1 + 2520 := Int.max_le.2 ⟨by omega,by omega⟩
  grind
 ·refine .inr ⟨_,rfl,rfl,?_,sh_same rfl rfl rfl⟩
  obtain ⟨d1,d2,d3,d4,d5,d6,d7,d8,d9,d10,d11⟩ := d
  have hw : decide (d2 = 0) = true := hw
  simp only [vdiS,upB,corB,rtB,beB,dId,dW,dPer,dBud,dBlk,dDis,dRem,dDl,dLft,dPas,ups,hw,cond_false,cond_true,Bool.not_true] at h ⊢
  simp at h ⊢
  obtain ⟨q1,q2,q3,q4,q5,q6,q7,q8,q9,q10⟩ := h
  have hp := perB_rng q5
  have : 0 ≤ d4 * (d8 - s.1) / d3 := Int.ediv_nonneg (Int.mul_nonneg (by omega) (by omega)) (by omega)
  have : min d9 (d4 * (d8 - s.1) / d3) ≤ d9 := Int.min_le_left ..
  have : 0 ≤ min d9 (d4 * (d8 - s.1) / d3) := Int.le_min.2 ⟨by omega,by omega⟩
  grind
end Go.AL
namespace Go.AL
open Go.Proofs
theorem ins_mem {d e : SDs} : ∀ {l : List SDs},e ∈ insL d l ↔ e = d ∨ e ∈ l
 | [] => by simp [insL]
 | x :: r => by
  have i := ins_mem (d := d) (e := e) (l := r)
  rw [insL]
  cases decide (x.1 < d.1)
  ·rw [cond_false]; simp
  ·rw [cond_true,List.mem_cons,i,List.mem_cons]
   constructor
   ·rintro (h | h | h)
    ·exact .inr (.inl h)
    ·exact .inl h
    ·exact .inr (.inr h)
   ·rintro (h | h | h)
    ·exact .inr (.inl h)
    ·exact .inl h
    ·exact .inr (.inr h)
theorem ins_srt {d : SDs} : ∀ {l : List SDs},l.Pairwise (fun a b => a.1 < b.1) → (∀ e ∈ l,e.1 ≠ d.1) → (insL d l).Pairwise (fun a b => a.1 < b.1)
 | [],_,_ => by simp [insL]
 | x :: r,h,hn => by
  rw [List.pairwise_cons] at h
  have hx := hn x (List.mem_cons_self ..)
  rw [insL]
  cases hc : decide (x.1 < d.1)
  ·have := of_decide_eq_false hc
   rw [cond_false]
   refine List.pairwise_cons.2 ⟨fun e he => ?_,List.pairwise_cons.2 h⟩
   rcases List.mem_cons.1 he with rfl | he
   ·omega
   ·have := h.1 e he; omega
  ·have := of_decide_eq_true hc
   rw [cond_true]
   refine List.pairwise_cons.2 ⟨fun e he => ?_,ins_srt h.2 fun e he => hn e (List.mem_cons_of_mem _ he)⟩
   rcases ins_mem.1 he with rfl | he
   ·exact this
   ·exact h.1 e he
theorem srt_len {b : Int} : ∀ {l : List SDs} {a : Int},l.Pairwise (fun x y => x.1 < y.1) → (∀ e ∈ l,a ≤ e.1 ∧ e.1 < b) → a ≤ b → ((l.length : Nat) : Int) ≤ b - a
 | [],a,_,_,hab => by simp; omega
 | d :: r,a,h,hr,hab => by
  rw [List.pairwise_cons] at h
  have hd := hr d (List.mem_cons_self ..)
  have := srt_len (a := d.1 + 1) h.2 (fun e he => ⟨by have := h.1 e he; omega,(hr e (List.mem_cons_of_mem _ he)).2⟩) (by omega)
  rw [List.length_cons]; omega
theorem vdi_id {d : SDs} {n v : Int} (h : vdiS (d,n,v) = true) : 0 ≤ d.1 ∧ d.1 < 32 := by
 simp only [vdiS,Bool.and_eq_true,decide_eq_true_eq] at h
 exact ⟨h.1,h.2.1⟩
theorem add_val (a : SSd × Int × Int × Int × Int) (h0 : (addS a).2 = 0) : valS (addS a).1 = true ∧ (addS a).1.1 = a.1.1 ∧ (addS a).1.2.1 = a.1.2.1 := by
 obtain ⟨s,id,w,p,b⟩ := a
 unfold addS at h0 ⊢
 simp only at h0 ⊢
 cases hv : valS s
 case false => rw [hv] at h0; exact absurd h0 (by show ¬ (74 : Int) = 0; omega)
 have V := (valS_iff s).1 hv
 cases h1 : vdiS (newDs s id w p b,s.1,s.2.1)
 case false => rw [hv,h1] at h0; exact absurd h0 (by show ¬ (1 : Int) = 0; omega)
 cases h2 : s.2.2.any (fun d => decide (d.1 = id))
 case true => rw [hv,h1,h2] at h0; exact absurd h0 (by show ¬ (56 : Int) = 0; omega)
 cases h3 : decide (utS (insL (newDs s id w p b) s.2.2) > 1024)
 case true => rw [hv,h1,h2,h3] at h0; exact absurd h0 (by show ¬ (15 : Int) = 0; omega)
 have hne : ∀ e ∈ s.2.2,e.1 ≠ id := fun e he hc => by
  have := List.any_eq_false.1 h2 e he
  simp only [decide_eq_true_eq] at this
  exact this hc
 have hs : (insL (newDs s id w p b) s.2.2).Pairwise (fun a b => a.1 < b.1) := ins_srt V.srt hne
 have hall : ∀ e ∈ insL (newDs s id w p b) s.2.2,vdiS (e,s.1,s.2.1) = true := fun e he => by
  rcases ins_mem.1 he with rfl | he
  ·exact h1
  ·exact V.all e he
 have hlen := srt_len (a := 0) (b := 32) hs (fun e he => vdi_id (hall e he)) (by omega)
 exact ⟨(valS_iff _).2 ⟨V.rng,by show (insL _ _).length ≤ 32; omega,hall,hs,by have := of_decide_eq_false h3; show utS (insL _ _) ≤ 1024; omega⟩,rfl,rfl⟩
def BestOf (may : SDs → Bool) (ky : SDs → Int) (p : List SDs) (b : Int) : Prop :=
 (b = -1 ∧ ∀ d ∈ p,may d = false) ∨ ∃ A d B,p = A ++ d :: B ∧ b = ((A.length : Nat) : Int) ∧ may d = true ∧ (∀ e ∈ A,may e = true → ky d < ky e) ∧ ∀ e ∈ B,may e = true → ky d ≤ ky e
theorem fst_step (may : SDs → Bool) (ky : SDs → Int) (l : List SDs) : ∀ (r p : List SDs) (b : Int),l = p ++ r → BestOf may ky p b → BestOf may ky l (fstL may ky l r p.length b)
 | [],p,b,h,hb => by rw [h,List.append_nil]; exact hb
 | d :: r,p,b,h,hb => by
  rw [fstL]
  have el : p.length + 1 = (p ++ [d]).length := by simp
  rw [el]
  refine fst_step may ky l r (p ++ [d]) _ (by rw [h]; simp) ?_
  have grow : (may d = true → ∃ A e B,p = A ++ e :: B ∧ b = ((A.length : Nat) : Int) ∧ may e = true ∧ ky e ≤ ky d) → BestOf may ky (p ++ [d]) b := fun hg => by
   rcases hb with ⟨e1,e2⟩ | ⟨A,e,B,e1,e2,e3,e4,e5⟩
   ·cases hm : may d
    ·refine .inl ⟨e1,fun x hx => ?_⟩
     rcases List.mem_append.1 hx with hx | hx
     ·exact e2 x hx
     ·rw [List.mem_singleton.1 hx]; exact hm
    ·obtain ⟨A,e,B,g1,g2,_⟩ := hg hm
     omega
   ·refine .inr ⟨A,e,B ++ [d],by rw [e1]; simp,e2,e3,e4,fun x hx hm => ?_⟩
    rcases List.mem_append.1 hx with hx | hx
    ·exact e5 x hx hm
    ·rw [List.mem_singleton.1 hx] at hm ⊢
     obtain ⟨A',e',B',g1,g2,g3,g4⟩ := hg hm
     have hA : A.length = A'.length := by omega
     have : A ++ e :: B = A' ++ e' :: B' := by rw [← e1,← g1]
     obtain ⟨_,h2⟩ := List.append_inj this hA
     rw [(List.cons.inj h2).1]; exact g4
  cases hm : may d
  ·rw [Bool.false_and,cond_false]; exact grow (fun h => by rw [hm] at h; cases h)
  ·rw [Bool.true_and]
   rcases hb with ⟨e1,e2⟩ | ⟨A,e,B,e1,e2,e3,e4,e5⟩
   ·rw [e1,decide_eq_true (show (-1 : Int) < 0 by omega),Bool.true_or,cond_true]
    exact .inr ⟨p,d,[],rfl,rfl,hm,(fun x hx hx2 => by rw [e2 x hx] at hx2; cases hx2),fun x hx => by cases hx⟩
   ·have g : l.getD b.toNat zDs = e := by rw [e2,Int.toNat_natCast,h,e1]; simp
    rw [g,decide_eq_false (show ¬ b < 0 by omega),Bool.false_or]
    by_cases hk : ky d < ky e
    ·rw [decide_eq_true hk,cond_true]
     refine .inr ⟨p,d,[],rfl,rfl,hm,fun x hx hx2 => ?_,fun x hx => by cases hx⟩
     rw [e1] at hx
     rcases List.mem_append.1 hx with hx | hx
     ·have := e4 x hx hx2; omega
     ·rcases List.mem_cons.1 hx with rfl | hx
      ·exact hk
      ·have := e5 x hx hx2; omega
    ·rw [decide_eq_false hk,cond_false]
     exact grow fun _ => ⟨A,e,B,e1,e2,e3,by omega⟩
theorem fst_best (may : SDs → Bool) (ky : SDs → Int) (l : List SDs) : BestOf may ky l (fstL may ky l l 0 (-1)) :=
 fst_step may ky l l [] (-1) rfl (.inl ⟨rfl,by simp⟩)
end Go.AL
namespace Go.AL
open Go.Proofs
def chgD (d : SDs) : SDs := bif decide (dW d = 0) then (dId d,dW d,dPer d,dBud d,dBlk d,dDis d,dRem d,dDl d,dLft d - 1,dPas d,ups d) else (dId d,dW d,dPer d,dBud d,dBlk d,dDis d,dRem d,dDl d,dLft d,dPas d + 2520 / dW d,ups d)
def entD (d : SDs) : SDs × Int × Int := bif dDis d then (d,2,0) else match ups d with
 | [] => (d,1,0)
 | e :: r => ((dId d,dW d,dPer d,dBud d,dBlk d,true,dRem d,dDl d,dLft d,dPas d,r),3,e)
def tckD (n : Int) (d : SDs) : List SDs := bif decide (dW d = 0) && decide (dDl d = n) then (bif dRem d then [] else [(dId d,dW d,dPer d,dBud d,dBlk d,dDis d,dRem d,dDl d + dPer d,dBud d,dPas d,ups d)]) else [d]
def tckL (n : Int) : List SDs → List SDs
 | [] => []
 | d :: r => tckD n d ++ tckL n r
def runS (s : SSd) : List SDs × Int × Int × Int × Int :=
 bif decide (chS s.2.2 < 0) then (s.2.2,s.2.1,-1,0,0) else
 (s.2.2.set (chS s.2.2).toNat (entD (chgD (s.2.2.getD (chS s.2.2).toNat zDs))).1,(bif decide (dW (s.2.2.getD (chS s.2.2).toNat zDs) = 0) then s.2.1 else dPas (s.2.2.getD (chS s.2.2).toNat zDs)),
  dId (s.2.2.getD (chS s.2.2).toNat zDs),(entD (chgD (s.2.2.getD (chS s.2.2).toNat zDs))).2.1,(entD (chgD (s.2.2.getD (chS s.2.2).toNat zDs))).2.2)
def tckS (s : SSd) : SSd × Int × Int × Int × Int :=
 bif !valS s then (zSs,0,0,0,74) else bif decide (s.1 = 1099511627776) || decide (s.2.1 > 1125899906842624 - 2520) then (zSs,0,0,0,15) else
 ((s.1 + 1,(runS s).2.1,tckL (s.1 + 1) (runS s).1),(runS s).2.2.1,(runS s).2.2.2.1,(runS s).2.2.2.2,0)
theorem tckD_ok {n v : Int} {d e : SDs} (h : vdiS (d,n,v) = true) (he : e ∈ tckD (n + 1) d) : e.1 = d.1 ∧ vdiS (e,n + 1,v) = true := by
 unfold tckD at he
 cases hw : decide (dW d = 0)
 ·rw [hw,Bool.false_and,cond_false,List.mem_singleton] at he
  subst he
  refine ⟨rfl,?_⟩
  obtain ⟨d1,d2,d3,d4,d5,d6,d7,d8,d9,d10,d11⟩ := e
  have hw : decide (d2 = 0) = false := hw
  simp only [vdiS,upB,corB,rtB,beB,dId,dW,dPer,dBud,dBlk,dDis,dRem,dDl,dLft,dPas,ups,hw,cond_false] at h ⊢
  exact h
 ·rw [hw,Bool.true_and] at he
  cases hd : decide (dDl d = n + 1)
  ·rw [hd,cond_false,List.mem_singleton] at he
   subst he
   refine ⟨rfl,?_⟩
   have hd := of_decide_eq_false hd
   obtain ⟨d1,d2,d3,d4,d5,d6,d7,d8,d9,d10,d11⟩ := e
   have hw : decide (d2 = 0) = true := hw
   simp only [vdiS,upB,corB,rtB,beB,dId,dW,dPer,dBud,dBlk,dDis,dRem,dDl,dLft,dPas,ups,hw,cond_true] at h hd ⊢
   simp at h ⊢
   grind
  ·rw [hd,cond_true] at he
   cases hr : dRem d
   ·rw [hr,cond_false,List.mem_singleton] at he
    subst he
    refine ⟨rfl,?_⟩
    have hd := of_decide_eq_true hd
    obtain ⟨d1,d2,d3,d4,d5,d6,d7,d8,d9,d10,d11⟩ := d
    have hw : decide (d2 = 0) = true := hw
    have hr : d7 = false := hr
    subst hr
    simp only [vdiS,upB,corB,rtB,beB,dId,dW,dPer,dBud,dBlk,dDis,dRem,dDl,dLft,dPas,ups,hw,cond_true] at h hd ⊢
    simp at h ⊢
    obtain ⟨q1,q2,q3,q4,q5,q6,q7⟩ := h
    have hp := perB_rng q5
    grind
   ·rw [hr,cond_true] at he; cases he
theorem tckD_sh {n : Int} {d : SDs} (h : 0 ≤ shD d) : utS (tckD n d) ≤ shD d := by
 unfold tckD
 cases decide (dW d = 0) && decide (dDl d = n)
 ·simp [utS]
 ·cases dRem d
  ·exact Int.le_of_eq ((Int.add_zero _).trans (sh_same rfl rfl rfl))
  ·exact h
theorem tckD_len (n : Int) (d : SDs) : (tckD n d).length ≤ 1 := by
 unfold tckD
 cases decide (dW d = 0) && decide (dDl d = n)
 ·simp
 ·cases dRem d <;> simp
theorem tck_time {n v : Int} : ∀ {l : List SDs},(∀ d ∈ l,vdiS (d,n,v) = true) → l.Pairwise (fun a b => a.1 < b.1) →
  (∀ e ∈ tckL (n + 1) l,vdiS (e,n + 1,v) = true ∧ ∃ d ∈ l,e.1 = d.1) ∧ (tckL (n + 1) l).Pairwise (fun a b => a.1 < b.1) ∧ utS (tckL (n + 1) l) ≤ utS l ∧ (tckL (n + 1) l).length ≤ l.length
 | [],_,_ => ⟨by simp [tckL],.nil,Int.le_refl _,Nat.le_refl _⟩
 | d :: r,ha,hs => by
  rw [List.pairwise_cons] at hs
  have hd := ha d (List.mem_cons_self ..)
  obtain ⟨i1,i2,i3,i4⟩ := tck_time (n := n) (v := v) (fun e he => ha e (List.mem_cons_of_mem _ he)) hs.2
  have hl := tckD_len (n + 1) d
  have hsh := tckD_sh (n := n + 1) (shD_rng (vdi_rt hd)).1
  refine ⟨fun e he => ?_,?_,?_,?_⟩
  ·rcases List.mem_append.1 (show e ∈ tckD (n + 1) d ++ tckL (n + 1) r from he) with he | he
   ·obtain ⟨g1,g2⟩ := tckD_ok hd he
    exact ⟨g2,d,List.mem_cons_self ..,g1⟩
   ·obtain ⟨g1,x,g2,g3⟩ := i1 e he
    exact ⟨g1,x,List.mem_cons_of_mem _ g2,g3⟩
  ·refine List.pairwise_append.2 ⟨?_,i2,fun a hA b hB => ?_⟩
   ·match tckD (n + 1) d,hl with
    | [],_ => exact .nil
    | [x],_ => simp
   ·obtain ⟨g1,_⟩ := tckD_ok hd hA
    obtain ⟨_,x,g2,g3⟩ := i1 b hB
    rw [g1,g3]; exact hs.1 x g2
  ·show utS (tckD (n + 1) d ++ tckL (n + 1) r) ≤ shD d + utS r
   rw [utS_app]; omega
  ·show (tckD (n + 1) d ++ tckL (n + 1) r).length ≤ r.length + 1
   rw [List.length_append]; omega
theorem Vs.time {n v : Int} {l : List SDs} (h : Vs n v l) (hn : n < 1099511627776) : Vs (n + 1) v (tckL (n + 1) l) := by
 obtain ⟨i1,i2,i3,i4⟩ := tck_time h.all h.srt
 have hr := h.rng
 simp only [rngB,Bool.and_eq_true,decide_eq_true_eq] at hr
 exact ⟨by simp only [rngB,Bool.and_eq_true,decide_eq_true_eq]; omega,by have := h.len; omega,fun e he => (i1 e he).1,i2,by have := h.ut; omega⟩
theorem Vs.virt {n v v' : Int} {l : List SDs} (h : Vs n v l) (h1 : v ≤ v') (h2 : v' ≤ 1125899906842624) (hb : ∀ d ∈ l,mayB d = true → v' ≤ dPas d) : Vs n v' l := by
 have hr := h.rng
 simp only [rngB,Bool.and_eq_true,decide_eq_true_eq] at hr
 refine ⟨by simp only [rngB,Bool.and_eq_true,decide_eq_true_eq]; omega,h.len,fun d hd => ?_,h.srt,h.ut⟩
 have ha := h.all d hd
 have hb := hb d hd
 obtain ⟨d1,d2,d3,d4,d5,d6,d7,d8,d9,d10,d11⟩ := d
 simp only [mayB,vdiS,upB,corB,rtB,beB,dId,dW,dPer,dBud,dBlk,dDis,dRem,dDl,dLft,dPas,ups] at ha hb ⊢
 cases hw : decide (d2 = 0) <;> simp only [hw,cond_true,cond_false] at ha hb ⊢
 ·simp at ha hb ⊢
  grind
 ·exact ha
theorem ent_ok {n v : Int} {d : SDs} (h : vdiS (d,n,v) = true) (hr : dRem d = false) : (entD d).1.1 = d.1 ∧ vdiS ((entD d).1,n,v) = true ∧ shD (entD d).1 = shD d := by
 unfold entD
 cases hd : dDis d
 ·rw [cond_false]
  cases hu : ups d with
  | nil => exact ⟨rfl,h,rfl⟩
  | cons e r =>
   refine ⟨rfl,?_,sh_same rfl rfl rfl⟩
   obtain ⟨d1,d2,d3,d4,d5,d6,d7,d8,d9,d10,d11⟩ := d
   have hr : d7 = false := hr
   have hu : d11 = e :: r := hu
   subst hr hu
   simp only [vdiS,upB,corB,rtB,beB,dId,dW,dPer,dBud,dBlk,dDis,dRem,dDl,dLft,dPas,ups] at h ⊢
   cases hw : decide (d2 = 0) <;> simp only [hw,cond_true,cond_false] at h ⊢ <;> simp at h ⊢ <;> grind
 ·exact ⟨rfl,h,rfl⟩
theorem set_mid {A B : List SDs} {d x : SDs} : (A ++ d :: B).set A.length x = A ++ [x] ++ B := by
 rw [List.set_append_right _ _ (Nat.le_refl _),Nat.sub_self]; simp
theorem ch_best (l : List SDs) : (chS l < 0 ∧ chS l = -1 ∧ ∀ d ∈ l,mayR d = false ∧ mayB d = false) ∨
  (∃ A d B,l = A ++ d :: B ∧ chS l = ((A.length : Nat) : Int) ∧ mayR d = true ∧ ∀ e ∈ l,mayR e = true → dDl d ≤ dDl e) ∨
  (∃ A d B,l = A ++ d :: B ∧ chS l = ((A.length : Nat) : Int) ∧ mayB d = true ∧ (∀ e ∈ l,mayR e = false) ∧ ∀ e ∈ l,mayB e = true → dPas d ≤ dPas e) := by
 have all : ∀ {may : SDs → Bool} {ky : SDs → Int} {A B : List SDs} {d : SDs},(∀ e ∈ A,may e = true → ky d < ky e) → (∀ e ∈ B,may e = true → ky d ≤ ky e) → ∀ e ∈ A ++ d :: B,may e = true → ky d ≤ ky e := by
  intro may ky A B d h1 h2 e he hm
  rcases List.mem_append.1 he with he | he
  ·have := h1 e he hm; omega
  ·rcases List.mem_cons.1 he with rfl | he
   ·exact Int.le_refl _
   ·exact h2 e he hm
 unfold chS
 rcases fst_best mayR dDl l with ⟨e1,e2⟩ | ⟨A,d,B,e1,e2,e3,e4,e5⟩
 ·rw [e1,decide_eq_true (show (-1 : Int) < 0 by omega),cond_true]
  rcases fst_best mayB dPas l with ⟨g1,g2⟩ | ⟨A,d,B,g1,g2,g3,g4,g5⟩
  ·exact .inl ⟨by omega,g1,fun d hd => ⟨e2 d hd,g2 d hd⟩⟩
  ·exact .inr (.inr ⟨A,d,B,g1,g2,g3,e2,by rw [g1]; exact all g4 g5⟩)
 ·rw [e2,decide_eq_false (show ¬ ((A.length : Nat) : Int) < 0 by omega),cond_false]
  exact .inr (.inl ⟨A,d,B,e1,rfl,e3,by rw [e1]; exact all e4 e5⟩)
theorem chg_rt {n v : Int} {d : SDs} (h : vdiS (d,n,v) = true) (hm : mayR d = true) : vdiS (chgD d,n,v) = true ∧ dRem (chgD d) = false ∧ (chgD d).1 = d.1 ∧ shD (chgD d) = shD d := by
 simp only [mayR,Bool.and_eq_true,Bool.not_eq_true',decide_eq_true_eq] at hm
 obtain ⟨m1,m2,m3,m4⟩ := hm
 unfold chgD
 rw [decide_eq_true m1,cond_true]
 refine ⟨?_,m2,rfl,sh_same rfl rfl rfl⟩
 obtain ⟨d1,d2,d3,d4,d5,d6,d7,d8,d9,d10,d11⟩ := d
 have m1 : d2 = 0 := m1
 subst m1
 simp only [vdiS,upB,corB,rtB,beB,dId,dW,dPer,dBud,dBlk,dDis,dRem,dDl,dLft,dPas,ups,decide_true,cond_true] at h m2 m3 m4 ⊢
 simp at h ⊢
 grind
theorem chg_be {n v : Int} {d : SDs} (h : vdiS (d,n,v) = true) (hm : mayB d = true) : vdiS (chgD d,n,dPas d) = true ∧ dRem (chgD d) = false ∧ (chgD d).1 = d.1 ∧ shD (chgD d) = shD d := by
 simp only [mayB,Bool.and_eq_true,Bool.not_eq_true',decide_eq_false_iff_not] at hm
 obtain ⟨m1,m2⟩ := hm
 unfold chgD
 rw [decide_eq_false m1,cond_false]
 obtain ⟨d1,d2,d3,d4,d5,d6,d7,d8,d9,d10,d11⟩ := d
 have m1 : ¬ d2 = 0 := m1
 have m1' : decide (d2 = 0) = false := decide_eq_false m1
 simp only [vdiS,upB,corB,rtB,beB,dId,dW,dPer,dBud,dBlk,dDis,dRem,dDl,dLft,dPas,ups,m1',cond_false] at h m2 ⊢
 simp at h
 obtain ⟨q1,q2,q3,q4,q5,q6,q7,q8,q9,q10,q11,q12,q13⟩ := h
 have w1 : 0 ≤ 2520 / d2 := Int.ediv_nonneg (by omega) (by omega)
 have w2 : 2520 / d2 ≤ 2520 := Int.ediv_le_self _ (by omega)
 refine ⟨?_,q13,trivial,sh_same rfl rfl rfl⟩
 simp
 grind
theorem run_val {s : SSd} (V : Vs s.1 s.2.1 s.2.2) (hv : s.2.1 ≤ 1125899906842624 - 2520) : Vs s.1 (runS s).2.1 (runS s).1 ∧ s.2.1 ≤ (runS s).2.1 := by
 unfold runS
 rcases ch_best s.2.2 with ⟨e0,e1,e2⟩ | ⟨A,d,B,e1,e2,e3,e4⟩ | ⟨A,d,B,e1,e2,e3,e4,e5⟩
 ·rw [decide_eq_true e0]; exact ⟨V,Int.le_refl _⟩
 ·have g1 : s.2.2.getD A.length zDs = d := by rw [e1]; simp
  rw [e2,Int.toNat_natCast,g1,decide_eq_false (show ¬ ((A.length : Nat) : Int) < 0 by omega),cond_false]
  have hw : decide (dW d = 0) = true := by
   simp only [mayR,Bool.and_eq_true] at e3; exact e3.1
  have hd := V.all d (by rw [e1]; simp)
  obtain ⟨c1,c2,c3,c4⟩ := chg_rt hd e3
  obtain ⟨k1,k2,k3⟩ := ent_ok c1 c2
  rw [hw]
  refine ⟨?_,Int.le_refl _⟩
  show Vs s.1 s.2.1 (s.2.2.set A.length _)
  rw [e1,set_mid]
  rw [e1] at V
  exact V.rep (.inr ⟨_,rfl,by rw [k1,c3],k2,by rw [k3,c4]⟩)
 ·have g1 : s.2.2.getD A.length zDs = d := by rw [e1]; simp
  rw [e2,Int.toNat_natCast,g1,decide_eq_false (show ¬ ((A.length : Nat) : Int) < 0 by omega),cond_false]
  have hm := e3
  simp only [mayB,Bool.and_eq_true,Bool.not_eq_true'] at hm
  have hw : decide (dW d = 0) = false := hm.1
  have hd := V.all d (by rw [e1]; simp)
  have hpas : s.2.1 ≤ dPas d ∧ dPas d ≤ s.2.1 + 2520 := by
   have hd := hd
   simp only [vdiS,corB,hw,cond_false,beB,Bool.and_eq_true,Bool.or_eq_true,decide_eq_true_eq] at hd
   obtain ⟨_,_,_,_,_,_,q4,q5,_⟩ := hd
   rcases q5 with q5 | q5
   ·rw [hm.2] at q5; cases q5
   ·exact ⟨q5,q4⟩
  have V2 := V.virt hpas.1 (by omega) e5
  obtain ⟨c1,c2,c3,c4⟩ := chg_be hd e3
  obtain ⟨k1,k2,k3⟩ := ent_ok c1 c2
  rw [hw]
  refine ⟨?_,hpas.1⟩
  show Vs s.1 (dPas d) (s.2.2.set A.length _)
  rw [e1,set_mid]
  rw [e1] at V2
  exact V2.rep (.inr ⟨_,rfl,by rw [k1,c3],k2,by rw [k3,c4]⟩)
theorem tck_val {s : SSd} (h : valS s = true) (hn : s.1 < 1099511627776) (hv : s.2.1 ≤ 1125899906842624 - 2520) : (tckS s).2.2.2.2 = 0 ∧ valS (tckS s).1 = true ∧ (tckS s).1.1 = s.1 + 1 ∧ s.2.1 ≤ (tckS s).1.2.1 := by
 have V := (valS_iff s).1 h
 obtain ⟨r1,r2⟩ := run_val V hv
 unfold tckS
 rw [h,decide_eq_false (show ¬ s.1 = 1099511627776 by omega),decide_eq_false (show ¬ s.2.1 > 1125899906842624 - 2520 by omega)]
 exact ⟨rfl,(valS_iff _).2 (r1.time hn),rfl,r2⟩
end Go.AL
namespace Go.AL
open Go.Proofs
theorem clone_okS {P : Program} {g : FuncId} {τ : List Ty}
  {B : Nat} (hne : ∀ a : List (RowT τ),0 < a.length → a.length ≤ B → ∀ vs,ArgsV [.rd τ] a vs → FnP P g vs (RessV [.v (.sl τ)] a))
  (hnil : FnP P g [V.ofCell (.slice none 0 0)] (RessV [.v (.sl τ)] ([] : List (RowT τ))))
  (hemp : ∀ (b : Addr) (c : Nat),FnP P g [V.ofCell (.slice (some b) 0 c)] (RessV [.v (.sl τ)] ([] : List (RowT τ)))) :
  ∀ a : List (RowT τ),a.length ≤ B → ∀ vs,ArgsV [.rd τ] a vs → FnP P g vs (RessV [.v (.sl τ)] a) := by
 intro a ha vs hv
 cases a with
 | cons x a => exact hne _ (by simp) ha vs hv
 | nil =>
  simp only [ArgsV,ArgsV1,ArgV] at hv
  obtain ⟨v,rfl,rows,rfl,hr⟩ := hv
  cases rows with
  | cons r rows => exact hr.elim
  | nil =>
   refine ⟨hnil.1,fun w A vs hA hsz hrel => ?_⟩
   obtain ⟨u,hu,hr2⟩ := hrel 0 (.rd []) rfl
   have one : ∀ v : Value,v.oneCell' = true → u = v → ∀ (i : Nat) (x : V),[V.ofCell v][i]? = some x → ∃ u,vs[i]? = some u ∧ Rel ⟨w,A,noH,noB⟩ x u := by
    rintro v hv1 rfl i x hx
    cases i with
    | zero => cases hx; exact ⟨u,hu,Rel.of_relP (relP_ofCell u hv1)⟩
    | succ i => simp at hx
   rcases hr2 with ⟨⟨a,rfl⟩,_⟩ | ⟨b,off,cap,es,f,rfl,_⟩
   ·cases a with
    | none => exact hnil.2 w A vs hA hsz (one _ rfl rfl)
    | some b => exact (hemp b 0).2 w A vs hA hsz (one _ rfl rfl)
   ·exact (hemp ⟨b,off,none⟩ cap).2 w A vs hA hsz (one _ rfl rfl)
noncomputable def C_icp : Cfg := ⟨Try.prog,[],pmT [],8,[],[],[],[]⟩
theorem es_icp : EsOk Try.prog [] := es_nil
theorem X_icp (l : List (Int)) : (runX C_icp (fun _ => ⟨[],[],0⟩) (Kret Try.prog [.tmp 2] [.v (.sl [.int .i64])]) 1 [.code (bodyOf Try.f58)] (initX [.rd [.int .i64]] l) : Option (ResT [.v (.sl [.int .i64])])) = bif Decidable.decide (0 < l.length) && Bool.true then bif Decidable.decide ((([] : List Nat).length + l.length) * (bytesOf Try.prog 3) ≤ 140737488355328) then some l else none else none := by kernel_rfl
noncomputable def E_icp : Ent := ⟨58,[.rd [.int .i64]],[.v (.sl [.int .i64])],fun a => len40n (a : List (Int)),fun a => (a : List (Int))⟩
theorem E_icp_ok : E_icp.Ok Try.prog := fun a hp vs hv => clone_okS (τ := [.int .i64])
  (fun a h0 h1 vs hv => fnX_ok (C := C_icp) (Lt := fun _ => ⟨[],[],0⟩) (fn := Try.f58) (rs := [.tmp 2]) [.rd [.int .i64]] [.v (.sl [.int .i64])] mixed es_icp Try.func58 rfl rfl rfl (by kernel_rfl) (by kernel_rfl) 1 ((X_icp a).trans (clone_len h0 h1 (by decide +kernel))) vs hv)
  (fnX_ok (C := C_icp) (Lt := fun _ => ⟨[],[],0⟩) (fn := Try.f58) (rs := [.tmp 2]) (a := ()) [.raw (.slice none 0 0)] [.v (.sl [.int .i64])] mixed es_icp Try.func58 rfl rfl rfl (by kernel_rfl) (by kernel_rfl) 1 (by kernel_rfl) _ (by simp only [ArgsV,ArgsV1,ArgV]; exact ⟨_,rfl,rfl⟩))
  (fun b c => fnX_ok (C := C_icp) (Lt := fun _ => ⟨[],[],0⟩) (fn := Try.f58) (rs := [.tmp 2]) (a := ()) [.raw (.slice (some b) 0 c)] [.v (.sl [.int .i64])] mixed es_icp Try.func58 rfl rfl rfl (by kernel_rfl) (by kernel_rfl) 1 (by kernel_rfl) _ (by simp only [ArgsV,ArgsV1,ArgV]; exact ⟨_,rfl,rfl⟩))
  a (of_decide_eq_true hp) vs hv
noncomputable def C_cps : Cfg := ⟨Try.prog,[],pmT [],31,[],[(22,[.int .i64])],[],[]⟩
theorem es_cps : EsOk Try.prog [] [] [] := es_nil
def Lt_cps : Nat → LD := ldT [(0,⟨[.box 1 1 26 3 tSSd,.box 2 2 26 3 tSSd,.boxo 3 3 26 3 tSSd 2 999 53 11,.c 4 (.int .i64)],[],0⟩)]
noncomputable def M_cps (f : Nat) (a : SSd) : Option (SSd) := (runX (C_cps) Lt_cps (Kret Try.prog [.cell 2 26] [.g tSSd]) f [.code (bodyOf Try.f17)] (initX [.g tSSd] a) : Option (ResT [.g tSSd]))
noncomputable def L_cps_0 (f : Nat) (x : SSd × SSd × SSd × Int) : Option (SSd) := (runX (C_cps) Lt_cps (Kret Try.prog [.cell 2 26] [.g tSSd]) f (headOf Try.f17 0) ((Lt_cps 0).mk' x) : Option (ResT [.g tSSd]))
theorem M_cps_eq (f : Nat) (s : SSd) : M_cps (f + 1) s =
  L_cps_0 f (s,(0,0,[]),(s.1,s.2.1,[]),0) := by kernel_rfl
theorem L_cps_0_eq (f : Nat) (s : SSd) (x2 : SSd) (x : SSd) (i : Int) : L_cps_0 (f + 1) (s,x2,x,i) =
  bif decide (i < (↑(List.length s.2.2) : Int)) then bif decide (0 ≤ i) && decide (i < (↑(List.length s.2.2) : Int)) then bif decide (List.length (List.getD s.2.2 i.toNat zQ).2.2.2.2.2.2.2.2.2.2 * 8 ≤ 140737488355328) then bif decide ((List.length x.2.2 + [List.getD s.2.2 i.toNat zQ].length) * 88 ≤ 140737488355328) then L_cps_0 f (s,x2,(x.1,x.2.1,x.2.2 ++ [List.getD s.2.2 i.toNat zQ]),IntKind.i64.wrap (i + 1)) else none else none else none else some x := by kernel_rfl
noncomputable def F_cps_0 : List (Int × Int × Int × Int × Bool × Bool × Bool × Int × Int × Int × (List (Int))) → (SSd × SSd × SSd × Nat) → SSd
 | [],(s,x2,x,i) => x
 | uu :: rest,(s,x2,x,i) => F_cps_0 rest (s,x2,(x.1,x.2.1,x.2.2 ++ [uu]),i + 1)
noncomputable def P_cps_0 : List (Int × Int × Int × Int × Bool × Bool × Bool × Int × Int × Int × (List (Int))) → (SSd × SSd × SSd × Nat) → Bool
 | [],(s,x2,x,i) => true
 | uu :: rest,(s,x2,x,i) => decide (List.length uu.2.2.2.2.2.2.2.2.2.2 * 8 ≤ 140737488355328) && (decide ((List.length x.2.2 + [uu].length) * 88 ≤ 140737488355328) && P_cps_0 rest (s,x2,(x.1,x.2.1,x.2.2 ++ [uu]),i + 1))
theorem A_cps_0 : ∀ (rest : List (Int × Int × Int × Int × Bool × Bool × Bool × Int × Int × Int × (List (Int)))) (s : SSd) (x2 : SSd) (x : SSd) (i : Nat) (hd : s.snd.snd.drop i = rest) (hl : s.snd.snd.length ≤ 1099511627776),Rns (fun f => L_cps_0 f (s,x2,x,((i : Nat) : Int))) (P_cps_0 rest (s,x2,x,i)) (F_cps_0 rest (s,x2,x,i))
 | [],s,x2,x,i,hd,hl => ev_step (T := fun f => some x) (fun f => (L_cps_0_eq f _ _ _ _).trans (by simp only [ge_dec (drop_ge hd),ge0,Bool.and_self,Bool.true_and,cond_true,cond_false,List.length_set] <;> rfl)) ev_some
 | uu :: rest,s,x2,x,i,hd,hl => ev_step (T := fun f => bif decide (List.length uu.2.2.2.2.2.2.2.2.2.2 * 8 ≤ 140737488355328) then bif decide ((List.length x.2.2 + [uu].length) * 88 ≤ 140737488355328) then L_cps_0 f (s,x2,(x.1,x.2.1,x.2.2 ++ [uu]),(↑(i + 1) : Int)) else none else none) (fun f => (L_cps_0_eq f _ _ _ _).trans (by simp only [lt_dec (drop_lt hd),drop_get hd,wrap_succ (drop_lt hd) hl,getD_set (drop_lt hd),ge0,Bool.and_self,Bool.true_and,cond_true,cond_false,List.length_set] <;> rfl)) (ev_chk (ev_chk (A_cps_0 rest _ _ _ _ (by first | exact drop_succ hd | exact drop_set hd | exact drop_setS (drop_set hd)) (by first | exact hl | simpa using hl))))
noncomputable def F_cps : SSd → SSd
 | s => F_cps_0 s.2.2 (s,(0,0,[]),(s.1,s.2.1,[]),0)
noncomputable def P_cps : SSd → Bool
 | s => decide (s.2.2.length ≤ 1099511627776) && P_cps_0 s.2.2 (s,(0,0,[]),(s.1,s.2.1,[]),0)
theorem cps_auto : ∀ a : SSd,Rns (fun f => M_cps f a) (P_cps a) (F_cps a)
 | s => ev_step (fun f => M_cps_eq f _) (ev_and fun hh => A_cps_0 _ _ _ _ _ rfl (of_decide_eq_true hh))
theorem cps_0 (s x2 : SSd) : ∀ (r : List SDs) (x : SSd) (k : Nat),(∀ d ∈ r,(ups d).length ≤ 1000) → x.2.2.length + r.length ≤ 1000 → F_cps_0 r (s,x2,x,k) = (x.1,x.2.1,x.2.2 ++ r) ∧ P_cps_0 r (s,x2,x,k) = true
 | [],x,k,h,hl => ⟨by simp [F_cps_0],rfl⟩
 | d :: r,x,k,h,hl => by
  simp only [List.length_cons] at hl
  have hd : (ups d).length ≤ 1000 := h d (List.mem_cons_self ..)
  obtain ⟨i1,i2⟩ := cps_0 s x2 r (x.1,x.2.1,x.2.2 ++ [d]) (k + 1) (fun e he => h e (List.mem_cons_of_mem _ he)) (by simp; omega)
  simp only [F_cps_0,P_cps_0,i1,i2,Bool.and_true,Bool.and_eq_true,decide_eq_true_eq,List.append_assoc,List.singleton_append]
  exact ⟨trivial,show (ups d).length * 8 ≤ 140737488355328 by omega,by simp only [List.length_singleton]; omega⟩
theorem cps_both : ∀ s : SSd,okD s = true → P_cps s = true ∧ F_cps s = s := fun s h => by
 have hl := okD_len h
 obtain ⟨i1,i2⟩ := cps_0 s (0,0,[]) s.2.2 (s.1,s.2.1,[]) 0 (fun d hd => okD_mem h hd) (by simpa using hl)
 simp only [P_cps,F_cps,i1,i2,Bool.and_true,List.nil_append]
 exact ⟨decide_eq_true (by omega),trivial⟩
theorem cps_P : ∀ s : SSd,okD s = true → P_cps s = true := fun s h => (cps_both s h).1
theorem cps_F : ∀ s : SSd,okD s = true → F_cps s = (fun s : SSd => s) s := fun s h => (cps_both s h).2
theorem cps_run : ∀ a,(okD : SSd → Bool) a = true → ∃ f,M_cps f a = some ((fun s : SSd => s : SSd → SSd) a) := fun a h => by have h1 := cps_auto a (cps_P a h); rw [cps_F a h] at h1; exact h1
noncomputable def E_cps : Ent := ⟨17,[.g tSSd],[.g tSSd],fun a => (okD : SSd → Bool) a,fun a => (fun s : SSd => s : SSd → SSd) a⟩
theorem E_cps_ok : E_cps.Ok Try.prog := fun a hp vs hv => (cps_run a hp).elim fun f h => fnX_ok (C := C_cps) (Lt := Lt_cps) (fn := Try.f17) (rs := [.cell 2 26]) [.g tSSd] [.g tSSd] mixed es_cps Try.func17 rfl rfl rfl (by kernel_rfl) (by kernel_rfl) f h vs hv
theorem set_self {l : List SDs} {k : Nat} {d : SDs} {r : List SDs} (h : l.drop k = d :: r) : l.set k d = l := by
 obtain ⟨h1,h2,h3⟩ := drop_get2 zDs h
 rw [List.getD_eq_getElem?_getD,List.getElem?_eq_getElem h1] at h2
 have h2 : l[k] = d := h2
 rw [← h2]; simp
end Go.AL
namespace Go.AL
open Go.Proofs
noncomputable def C_clo : Cfg := ⟨Try.prog,[E_dcl,E_icp],pmT [(5,([(0,[]),(1,[]),(2,[]),(3,[]),(4,[]),(5,[]),(6,[]),(7,[]),(8,[]),(9,[]),(10,[]),(11,[]),(12,[])],[(14,25)]))],28,[],[],[],[]⟩
theorem es_clo : EsOk Try.prog [E_dcl,E_icp] [] [] := es_cons E_dcl_ok (es_cons E_icp_ok (es_nil))
def Lt_clo : Nat → LD := ldT [(0,⟨[.boxo 1 1 26 3 tSSd 2 999 53 11,.box 2 2 26 3 tSSd,.c 10 (.int .i64),.c 11 (.int .i64)],[],0⟩)]
noncomputable def M_clo (f : Nat) (a : SSd) : Option (SSd) := (runX (C_clo) Lt_clo (Kret Try.prog [.cell 2 26] [.a 53 11 2 tSSd]) f [.code (bodyOf Try.f37)] (initX [.g tSSd] a) : Option (ResT [.a 53 11 2 tSSd]))
noncomputable def L_clo_0 (f : Nat) (x : SSd × SSd × Int × Int) : Option (SSd) := (runX (C_clo) Lt_clo (Kret Try.prog [.cell 2 26] [.a 53 11 2 tSSd]) f (headOf Try.f37 0) ((Lt_clo 0).mk' x) : Option (ResT [.a 53 11 2 tSSd]))
theorem M_clo_eq (f : Nat) (s : SSd) : M_clo (f + 1) s =
  bif len40n s.2.2 then L_clo_0 f (s,(0,0,[]),(↑(List.length s.2.2) : Int),0) else none := by kernel_rfl
theorem L_clo_0_eq (f : Nat) (s : SSd) (x2 : SSd) (x10 : Int) (x11 : Int) : L_clo_0 (f + 1) (s,x2,x10,x11) =
  bif decide (x11 < x10) then bif decide (0 ≤ x11) && decide (x11 < (↑(List.length s.2.2) : Int)) then bif len40n (List.getD s.2.2 x11.toNat zQ).2.2.2.2.2.2.2.2.2.2 then bif decide (0 ≤ x11) && decide (x11 < (↑(List.length s.2.2) : Int)) then L_clo_0 f ((s.1,s.2.1,List.set s.2.2 x11.toNat (List.getD s.2.2 x11.toNat zQ)),x2,x10,IntKind.i64.wrap (x11 + 1)) else none else none else none else some s := by kernel_rfl
noncomputable def F_clo_0 : List (Int × Int × Int × Int × Bool × Bool × Bool × Int × Int × Int × (List (Int))) → (SSd × SSd × Int × Nat) → SSd
 | [],(s,x2,x10,x11) => s
 | uu :: rest,(s,x2,x10,x11) => F_clo_0 rest ((s.1,s.2.1,List.set s.2.2 (↑x11 : Int).toNat uu),x2,x10,x11 + 1)
noncomputable def P_clo_0 : List (Int × Int × Int × Int × Bool × Bool × Bool × Int × Int × Int × (List (Int))) → (SSd × SSd × Int × Nat) → Bool
 | [],(s,x2,x10,x11) => true
 | uu :: rest,(s,x2,x10,x11) => len40n uu.2.2.2.2.2.2.2.2.2.2 && P_clo_0 rest ((s.1,s.2.1,List.set s.2.2 (↑x11 : Int).toNat uu),x2,x10,x11 + 1)
theorem A_clo_0 : ∀ (rest : List (Int × Int × Int × Int × Bool × Bool × Bool × Int × Int × Int × (List (Int)))) (s : SSd) (x2 : SSd) (x10 : Int) (x11 : Nat) (hd : s.snd.snd.drop x11 = rest) (hn : x10 = ((s.snd.snd.length : Nat) : Int)) (hl : s.snd.snd.length ≤ 1099511627776),Rns (fun f => L_clo_0 f (s,x2,x10,((x11 : Nat) : Int))) (P_clo_0 rest (s,x2,x10,x11)) (F_clo_0 rest (s,x2,x10,x11))
 | [],s,x2,x10,x11,hd,hn,hl => ev_step (T := fun f => some s) (fun f => (L_clo_0_eq f _ _ _ _).trans (by simp only [ge_decn hn (drop_ge hd),ge0,Bool.and_self,Bool.true_and,cond_true,cond_false,List.length_set] <;> rfl)) ev_some
 | uu :: rest,s,x2,x10,x11,hd,hn,hl => ev_step (T := fun f => bif len40n uu.2.2.2.2.2.2.2.2.2.2 then L_clo_0 f ((s.1,s.2.1,List.set s.2.2 (↑x11 : Int).toNat uu),x2,x10,(↑(x11 + 1) : Int)) else none) (fun f => (L_clo_0_eq f _ _ _ _).trans (by simp only [lt_decn hn (drop_lt hd),lt_dec (drop_lt hd),drop_get hd,wrap_succ (drop_lt hd) hl,getD_set (drop_lt hd),ge0,Bool.and_self,Bool.true_and,cond_true,cond_false,List.length_set] <;> rfl)) (ev_chk (A_clo_0 rest _ _ _ _ (by first | exact drop_succ hd | exact drop_set hd | exact drop_setS (drop_set hd)) (by first | exact hn | simpa using hn) (by first | exact hl | simpa using hl)))
noncomputable def F_clo : SSd → SSd
 | s => F_clo_0 s.2.2 (s,(0,0,[]),(↑(List.length s.2.2) : Int),0)
noncomputable def P_clo : SSd → Bool
 | s => len40n s.2.2 && (decide (s.2.2.length ≤ 1099511627776) && P_clo_0 s.2.2 (s,(0,0,[]),(↑(List.length s.2.2) : Int),0))
theorem clo_auto : ∀ a : SSd,Rns (fun f => M_clo f a) (P_clo a) (F_clo a)
 | s => ev_step (fun f => M_clo_eq f _) (ev_chk (ev_and fun hh => A_clo_0 _ _ _ _ _ rfl (by first | rfl | simp) (of_decide_eq_true hh)))
theorem clo_0 (s x2 : SSd) (n : Int) : ∀ (r : List SDs) (k : Nat),s.2.2.drop k = r → (∀ d ∈ r,(ups d).length ≤ 1000) → F_clo_0 r (s,x2,n,k) = s ∧ P_clo_0 r (s,x2,n,k) = true
 | [],k,h,hu => ⟨rfl,rfl⟩
 | d :: r,k,h,hu => by
  obtain ⟨h1,h2,h3⟩ := drop_get2 zDs h
  have hd : (ups d).length ≤ 1000 := hu d (List.mem_cons_self ..)
  obtain ⟨i1,i2⟩ := clo_0 s x2 n r (k + 1) h3 (fun e he => hu e (List.mem_cons_of_mem _ he))
  have e : ((s.1,s.2.1,List.set s.2.2 ((k : Nat) : Int).toNat d) : SSd) = s := by rw [Int.toNat_natCast,set_self h]
  simp only [F_clo_0,P_clo_0,e,i1,i2,Bool.and_true]
  exact ⟨trivial,decide_eq_true (show (ups d).length ≤ 1099511627776 by omega)⟩
theorem clo_both : ∀ s : SSd,okD s = true → P_clo s = true ∧ F_clo s = s := fun s h => by
 have hl := okD_len h
 obtain ⟨i1,i2⟩ := clo_0 s (0,0,[]) ((s.2.2.length : Nat) : Int) s.2.2 0 rfl (fun d hd => okD_mem h hd)
 simp only [P_clo,F_clo,i1,i2,Bool.and_true]
 refine ⟨?_,trivial⟩
 rw [Bool.and_eq_true]
 exact ⟨decide_eq_true (by omega),decide_eq_true (by omega)⟩
theorem clo_P : ∀ s : SSd,okD s = true → P_clo s = true := fun s h => (clo_both s h).1
theorem clo_F : ∀ s : SSd,okD s = true → F_clo s = (fun s : SSd => s) s := fun s h => (clo_both s h).2
theorem clo_run : ∀ a,(okD : SSd → Bool) a = true → ∃ f,M_clo f a = some ((fun s : SSd => s : SSd → SSd) a) := fun a h => by have h1 := clo_auto a (clo_P a h); rw [clo_F a h] at h1; exact h1
noncomputable def E_clo : Ent := ⟨37,[.g tSSd],[.a 53 11 2 tSSd],fun a => (okD : SSd → Bool) a,fun a => (fun s : SSd => s : SSd → SSd) a⟩
theorem E_clo_ok : E_clo.Ok Try.prog := fun a hp vs hv => (clo_run a hp).elim fun f h => fnX_ok (C := C_clo) (Lt := Lt_clo) (fn := Try.f37) (rs := [.cell 2 26]) [.g tSSd] [.a 53 11 2 tSSd] mixed es_clo Try.func37 rfl rfl rfl (by kernel_rfl) (by kernel_rfl) f h vs hv
noncomputable def C_cpo : Cfg := ⟨Try.prog,[],pmT [],31,[],[(22,[.int .i64])],[],[]⟩
theorem es_cpo : EsOk Try.prog [] [] [] := es_nil
def Lt_cpo : Nat → LD := ldT [(0,⟨[.box 1 1 26 3 tSSd,.box 2 2 26 3 tSSd,.boxo 3 3 26 3 tSSd 2 999 53 11,.c 4 (.int .i64)],[],0⟩)]
noncomputable def M_cpo (f : Nat) (a : SSd) : Option (SSd) := (runX (C_cpo) Lt_cpo (Kret Try.prog [.cell 2 26] [.a 53 11 2 tSSd]) f [.code (bodyOf Try.f17)] (initX [.g tSSd] a) : Option (ResT [.a 53 11 2 tSSd]))
noncomputable def L_cpo_0 (f : Nat) (x : SSd × SSd × SSd × Int) : Option (SSd) := (runX (C_cpo) Lt_cpo (Kret Try.prog [.cell 2 26] [.a 53 11 2 tSSd]) f (headOf Try.f17 0) ((Lt_cpo 0).mk' x) : Option (ResT [.a 53 11 2 tSSd]))
theorem M_cpo_eq (f : Nat) (s : SSd) : M_cpo (f + 1) s =
  L_cpo_0 f (s,(0,0,[]),(s.1,s.2.1,[]),0) := by kernel_rfl
theorem L_cpo_0_eq (f : Nat) (s : SSd) (x2 : SSd) (x : SSd) (i : Int) : L_cpo_0 (f + 1) (s,x2,x,i) =
  bif decide (i < (↑(List.length s.2.2) : Int)) then bif decide (0 ≤ i) && decide (i < (↑(List.length s.2.2) : Int)) then bif decide (List.length (List.getD s.2.2 i.toNat zQ).2.2.2.2.2.2.2.2.2.2 * 8 ≤ 140737488355328) then bif decide ((List.length x.2.2 + [List.getD s.2.2 i.toNat zQ].length) * 88 ≤ 140737488355328) then L_cpo_0 f (s,x2,(x.1,x.2.1,x.2.2 ++ [List.getD s.2.2 i.toNat zQ]),IntKind.i64.wrap (i + 1)) else none else none else none else some x := by kernel_rfl
noncomputable def F_cpo_0 : List (Int × Int × Int × Int × Bool × Bool × Bool × Int × Int × Int × (List (Int))) → (SSd × SSd × SSd × Nat) → SSd
 | [],(s,x2,x,i) => x
 | uu :: rest,(s,x2,x,i) => F_cpo_0 rest (s,x2,(x.1,x.2.1,x.2.2 ++ [uu]),i + 1)
noncomputable def P_cpo_0 : List (Int × Int × Int × Int × Bool × Bool × Bool × Int × Int × Int × (List (Int))) → (SSd × SSd × SSd × Nat) → Bool
 | [],(s,x2,x,i) => true
 | uu :: rest,(s,x2,x,i) => decide (List.length uu.2.2.2.2.2.2.2.2.2.2 * 8 ≤ 140737488355328) && (decide ((List.length x.2.2 + [uu].length) * 88 ≤ 140737488355328) && P_cpo_0 rest (s,x2,(x.1,x.2.1,x.2.2 ++ [uu]),i + 1))
theorem A_cpo_0 : ∀ (rest : List (Int × Int × Int × Int × Bool × Bool × Bool × Int × Int × Int × (List (Int)))) (s : SSd) (x2 : SSd) (x : SSd) (i : Nat) (hd : s.snd.snd.drop i = rest) (hl : s.snd.snd.length ≤ 1099511627776),Rns (fun f => L_cpo_0 f (s,x2,x,((i : Nat) : Int))) (P_cpo_0 rest (s,x2,x,i)) (F_cpo_0 rest (s,x2,x,i))
 | [],s,x2,x,i,hd,hl => ev_step (T := fun f => some x) (fun f => (L_cpo_0_eq f _ _ _ _).trans (by simp only [ge_dec (drop_ge hd),ge0,Bool.and_self,Bool.true_and,cond_true,cond_false,List.length_set] <;> rfl)) ev_some
 | uu :: rest,s,x2,x,i,hd,hl => ev_step (T := fun f => bif decide (List.length uu.2.2.2.2.2.2.2.2.2.2 * 8 ≤ 140737488355328) then bif decide ((List.length x.2.2 + [uu].length) * 88 ≤ 140737488355328) then L_cpo_0 f (s,x2,(x.1,x.2.1,x.2.2 ++ [uu]),(↑(i + 1) : Int)) else none else none) (fun f => (L_cpo_0_eq f _ _ _ _).trans (by simp only [lt_dec (drop_lt hd),drop_get hd,wrap_succ (drop_lt hd) hl,getD_set (drop_lt hd),ge0,Bool.and_self,Bool.true_and,cond_true,cond_false,List.length_set] <;> rfl)) (ev_chk (ev_chk (A_cpo_0 rest _ _ _ _ (by first | exact drop_succ hd | exact drop_set hd | exact drop_setS (drop_set hd)) (by first | exact hl | simpa using hl))))
noncomputable def F_cpo : SSd → SSd
 | s => F_cpo_0 s.2.2 (s,(0,0,[]),(s.1,s.2.1,[]),0)
noncomputable def P_cpo : SSd → Bool
 | s => decide (s.2.2.length ≤ 1099511627776) && P_cpo_0 s.2.2 (s,(0,0,[]),(s.1,s.2.1,[]),0)
theorem cpo_auto : ∀ a : SSd,Rns (fun f => M_cpo f a) (P_cpo a) (F_cpo a)
 | s => ev_step (fun f => M_cpo_eq f _) (ev_and fun hh => A_cpo_0 _ _ _ _ _ rfl (of_decide_eq_true hh))
theorem cpo_0 (s x2 : SSd) : ∀ (r : List SDs) (x : SSd) (k : Nat),(∀ d ∈ r,(ups d).length ≤ 1000) → x.2.2.length + r.length ≤ 1000 → F_cpo_0 r (s,x2,x,k) = (x.1,x.2.1,x.2.2 ++ r) ∧ P_cpo_0 r (s,x2,x,k) = true
 | [],x,k,h,hl => ⟨by simp [F_cpo_0],rfl⟩
 | d :: r,x,k,h,hl => by
  simp only [List.length_cons] at hl
  have hd : (ups d).length ≤ 1000 := h d (List.mem_cons_self ..)
  obtain ⟨i1,i2⟩ := cpo_0 s x2 r (x.1,x.2.1,x.2.2 ++ [d]) (k + 1) (fun e he => h e (List.mem_cons_of_mem _ he)) (by simp; omega)
  simp only [F_cpo_0,P_cpo_0,i1,i2,Bool.and_true,Bool.and_eq_true,decide_eq_true_eq,List.append_assoc,List.singleton_append]
  exact ⟨trivial,show (ups d).length * 8 ≤ 140737488355328 by omega,by simp only [List.length_singleton]; omega⟩
theorem cpo_both : ∀ s : SSd,okD s = true → P_cpo s = true ∧ F_cpo s = s := fun s h => by
 have hl := okD_len h
 obtain ⟨i1,i2⟩ := cpo_0 s (0,0,[]) s.2.2 (s.1,s.2.1,[]) 0 (fun d hd => okD_mem h hd) (by simpa using hl)
 simp only [P_cpo,F_cpo,i1,i2,Bool.and_true,List.nil_append]
 exact ⟨decide_eq_true (by omega),trivial⟩
theorem cpo_P : ∀ s : SSd,okD s = true → P_cpo s = true := fun s h => (cpo_both s h).1
theorem cpo_F : ∀ s : SSd,okD s = true → F_cpo s = (fun s : SSd => s) s := fun s h => (cpo_both s h).2
theorem cpo_run : ∀ a,(okD : SSd → Bool) a = true → ∃ f,M_cpo f a = some ((fun s : SSd => s : SSd → SSd) a) := fun a h => by have h1 := cpo_auto a (cpo_P a h); rw [cpo_F a h] at h1; exact h1
noncomputable def E_cpo : Ent := ⟨17,[.g tSSd],[.a 53 11 2 tSSd],fun a => (okD : SSd → Bool) a,fun a => (fun s : SSd => s : SSd → SSd) a⟩
theorem E_cpo_ok : E_cpo.Ok Try.prog := fun a hp vs hv => (cpo_run a hp).elim fun f h => fnX_ok (C := C_cpo) (Lt := Lt_cpo) (fn := Try.f17) (rs := [.cell 2 26]) [.g tSSd] [.a 53 11 2 tSSd] mixed es_cpo Try.func17 rfl rfl rfl (by kernel_rfl) (by kernel_rfl) f h vs hv
end Go.AL
namespace Go.AL
open Go.Proofs
noncomputable def C_cg1 : Cfg := ⟨Try.prog,[],pmT [],13,[],[],[],[]⟩
theorem es_cg1 : EsOk Try.prog [] [] [] := es_nil
def Lt_cg1 : Nat → LD := ldT []
noncomputable def M_cg1 (f : Nat) (a : SDs × Int) : Option (Bool) := (runX (C_cg1) Lt_cg1 (Kret Try.prog [.tmp 3] [.v (.bool)]) f [.code (bodyOf Try.f68)] (initX [.g tSDs,.cp [.int .i64]] a) : Option (ResT [.v (.bool)]))
theorem M_cg1_eq (f : Nat) (d : SDs) (id : Int) : M_cg1 (f + 1) (d,id) =
  bif d.1 == id then some !d.2.2.2.2.2.2.1 else some false := by kernel_rfl
noncomputable def F_cg1 : (SDs × Int) → Bool
 | (d,id) => bif d.1 == id then !d.2.2.2.2.2.2.1 else false
noncomputable def P_cg1 : (SDs × Int) → Bool
 | (d,id) => true
theorem cg1_auto : ∀ a : SDs × Int,Rns (fun f => M_cg1 f a) (P_cg1 a) (F_cg1 a)
 | (d,id) => ev_step (fun f => M_cg1_eq f _ _) (ev_bift ev_some ev_some)
theorem cg1_P : ∀ a : SDs × Int,(fun _ => true : SDs × Int → Bool) a = true → P_cg1 a = true := fun _ _ => rfl
theorem cg1_F : ∀ a : SDs × Int,(fun _ => true : SDs × Int → Bool) a = true → F_cg1 a = (fun a : SDs × Int => decide (a.1.1 = a.2) && !dRem a.1) a := fun (d,i) _ => by
 show F_cg1 (d,i) = (decide (d.1 = i) && !dRem d)
 simp only [F_cg1,dRem]
 by_cases h : d.1 = i
 ·rw [decide_eq_true h,show (d.1 == i) = true by simpa using h]; rfl
 ·rw [decide_eq_false h,show (d.1 == i) = false by simpa using h]; rfl
theorem cg1_run : ∀ a,(fun _ => true : SDs × Int → Bool) a = true → ∃ f,M_cg1 f a = some ((fun a : SDs × Int => decide (a.1.1 = a.2) && !dRem a.1 : SDs × Int → Bool) a) := fun a h => by have h1 := cg1_auto a (cg1_P a h); rw [cg1_F a h] at h1; exact h1
noncomputable def E_cg1 : Ent := ⟨68,[.g tSDs,.cp [.int .i64]],[.v (.bool)],fun a => (fun _ => true : SDs × Int → Bool) a,fun a => (fun a : SDs × Int => decide (a.1.1 = a.2) && !dRem a.1 : SDs × Int → Bool) a⟩
theorem E_cg1_ok : E_cg1.Ok Try.prog := fun a hp vs hv => (cg1_run a hp).elim fun f h => fnX_ok (C := C_cg1) (Lt := Lt_cg1) (fn := Try.f68) (rs := [.tmp 3]) [.g tSDs,.cp [.int .i64]] [.v (.bool)] mixed es_cg1 Try.func68 rfl rfl rfl (by kernel_rfl) (by kernel_rfl) f h vs hv
noncomputable def C_dix : Cfg := ⟨Try.prog,[E_cg1],pmT [],19,[],[],[],[]⟩
theorem es_dix : EsOk Try.prog [E_cg1] [] [] := es_cons E_cg1_ok (es_nil)
def Lt_dix : Nat → LD := ldT [(0,⟨[.rd 0 tSDs,.fn 1 68 [[.int .i64]],.c 7 (.int .i64),.c 8 (.int .i64)],[],0⟩)]
noncomputable def M_dix (f : Nat) (a : (List (SDs)) × Int) : Option (Int) := (runX (C_dix) Lt_dix (Kret Try.prog [.tmp 4] [.v (.int .i64)]) f [.code (bodyOf Try.f67)] (initX [.rd tSDs,.fn 68 [[.int .i64]]] a) : Option (ResT [.v (.int .i64)]))
noncomputable def L_dix_0 (f : Nat) (x : (List (SDs)) × Int × Int × Int) : Option (Int) := (runX (C_dix) Lt_dix (Kret Try.prog [.tmp 4] [.v (.int .i64)]) f (headOf Try.f67 0) ((Lt_dix 0).mk' x) : Option (ResT [.v (.int .i64)]))
theorem M_dix_eq (f : Nat) (l : List (SDs)) (pf : Int) : M_dix (f + 1) (l,pf) =
  L_dix_0 f (l,pf,(↑l.length : Int),0) := by kernel_rfl
theorem L_dix_0_eq (f : Nat) (s : List (SDs)) (f0 : Int) (x7 : Int) (x8 : Int) : L_dix_0 (f + 1) (s,f0,x7,x8) =
  bif decide (x8 < x7) then bif decide (0 ≤ x8) && decide (x8 < (↑s.length : Int)) then bif decide ((s.getD x8.toNat zQ).1 = f0) && !dRem (s.getD x8.toNat zQ) then some x8 else L_dix_0 f (s,f0,x7,IntKind.i64.wrap (x8 + 1)) else none else some (-1) := by kernel_rfl
noncomputable def F_dix_0 : List (SDs) → ((List (SDs)) × Int × Int × Nat) → Int
 | [],(s,f0,x7,x8) => -1
 | uu :: rest,(s,f0,x7,x8) => bif decide (uu.1 = f0) && !dRem uu then (↑x8 : Int) else F_dix_0 rest (s,f0,x7,x8 + 1)
noncomputable def P_dix_0 : List (SDs) → ((List (SDs)) × Int × Int × Nat) → Bool
 | [],(s,f0,x7,x8) => true
 | uu :: rest,(s,f0,x7,x8) => bif decide (uu.1 = f0) && !dRem uu then true else P_dix_0 rest (s,f0,x7,x8 + 1)
theorem A_dix_0 : ∀ (rest : List (SDs)) (s : List (SDs)) (f0 : Int) (x7 : Int) (x8 : Nat) (hd : s.drop x8 = rest) (hn : x7 = ((s.length : Nat) : Int)) (hl : s.length ≤ 1099511627776),Rns (fun f => L_dix_0 f (s,f0,x7,((x8 : Nat) : Int))) (P_dix_0 rest (s,f0,x7,x8)) (F_dix_0 rest (s,f0,x7,x8))
 | [],s,f0,x7,x8,hd,hn,hl => ev_step (T := fun f => some (-1)) (fun f => (L_dix_0_eq f _ _ _ _).trans (by simp only [ge_decn hn (drop_ge hd),ge0,Bool.and_self,Bool.true_and,cond_true,cond_false,List.length_set] <;> rfl)) ev_some
 | uu :: rest,s,f0,x7,x8,hd,hn,hl => ev_step (T := fun f => bif decide (uu.1 = f0) && !dRem uu then some (↑x8 : Int) else L_dix_0 f (s,f0,x7,(↑(x8 + 1) : Int))) (fun f => (L_dix_0_eq f _ _ _ _).trans (by simp only [lt_decn hn (drop_lt hd),lt_dec (drop_lt hd),drop_get hd,wrap_succ (drop_lt hd) hl,getD_set (drop_lt hd),ge0,Bool.and_self,Bool.true_and,cond_true,cond_false,List.length_set] <;> rfl)) (ev_bif ev_some (A_dix_0 rest _ _ _ _ (by first | exact drop_succ hd | exact drop_set hd | exact drop_setS (drop_set hd)) (by first | exact hn | simpa using hn) (by first | exact hl | simpa using hl)))
noncomputable def F_dix : ((List (SDs)) × Int) → Int
 | (l,pf) => F_dix_0 l (l,pf,(↑l.length : Int),0)
noncomputable def P_dix : ((List (SDs)) × Int) → Bool
 | (l,pf) => decide (l.length ≤ 1099511627776) && P_dix_0 l (l,pf,(↑l.length : Int),0)
theorem dix_auto : ∀ a : (List (SDs)) × Int,Rns (fun f => M_dix f a) (P_dix a) (F_dix a)
 | (l,pf) => ev_step (fun f => M_dix_eq f _ _) (ev_and fun hh => A_dix_0 _ _ _ _ _ rfl (by first | rfl | simp) (of_decide_eq_true hh))
theorem dix_0 (l : List SDs) (id x : Int) : ∀ (r : List SDs) (k : Nat),F_dix_0 r (l,id,x,k) = opnI id r k ∧ P_dix_0 r (l,id,x,k) = true
 | [],k => ⟨rfl,rfl⟩
 | d :: r,k => by
  obtain ⟨i1,i2⟩ := dix_0 l id x r (k + 1)
  simp only [F_dix_0,P_dix_0,opnI,i1,i2]
  exact ⟨trivial,by cases decide (d.1 = id) && !dRem d <;> rfl⟩
theorem dix_P : ∀ a : List SDs × Int,(fun a : List SDs × Int => len40n a.1) a = true → P_dix a = true := fun (l,i) h => by simp only [P_dix,(dix_0 _ _ _ _ _).2,Bool.and_true]; exact h
theorem dix_F : ∀ a : List SDs × Int,(fun a : List SDs × Int => len40n a.1) a = true → F_dix a = (fun a : List SDs × Int => opnI a.2 a.1 0) a := fun (l,i) h => by simp only [F_dix,(dix_0 _ _ _ _ _).1]
theorem dix_run : ∀ a,(fun a => len40n a.1 : (List (SDs)) × Int → Bool) a = true → ∃ f,M_dix f a = some ((fun a => opnI a.2 a.1 0 : (List (SDs)) × Int → Int) a) := fun a h => by have h1 := dix_auto a (dix_P a h); rw [dix_F a h] at h1; exact h1
noncomputable def E_dix : Ent := ⟨67,[.rd tSDs,.fn 68 [[.int .i64]]],[.v (.int .i64)],fun a => (fun a => len40n a.1 : (List (SDs)) × Int → Bool) a,fun a => (fun a => opnI a.2 a.1 0 : (List (SDs)) × Int → Int) a⟩
theorem E_dix_ok : E_dix.Ok Try.prog := fun a hp vs hv => (dix_run a hp).elim fun f h => fnX_ok (C := C_dix) (Lt := Lt_dix) (fn := Try.f67) (rs := [.tmp 4]) [.rd tSDs,.fn 68 [[.int .i64]]] [.v (.int .i64)] mixed es_dix Try.func67 rfl rfl rfl (by kernel_rfl) (by kernel_rfl) f h vs hv
noncomputable def D_blk_45 : InlD := ⟨45,bodyOf Try.f45,32,pmT [],[.cell 6 26,.tmp 7],[]⟩
theorem D_blk_45_ok : D_blk_45.Ok Try.prog := inl_ok Try.func45 rfl rfl rfl (by kernel_rfl)
noncomputable def D_blk_52 : InlD := ⟨52,bodyOf Try.f52,12,pmT [],[.tmp 4],[]⟩
theorem D_blk_52_ok : D_blk_52.Ok Try.prog := inl_ok Try.func52 rfl rfl rfl (by kernel_rfl)
noncomputable def C_blk : Cfg := ⟨Try.prog,[E_val,E_cg1,E_dix,E_clo],pmT [],11,[],[],[D_blk_45,D_blk_52],[]⟩
theorem es_blk : EsOk Try.prog [E_val,E_cg1,E_dix,E_clo] [] [D_blk_45,D_blk_52] := es_cons E_val_ok (es_cons E_cg1_ok (es_cons E_dix_ok (es_cons E_clo_ok ((il_cons D_blk_45_ok (il_cons D_blk_52_ok es_nil))))))
def Lt_blk : Nat → LD := ldT []
noncomputable def M_blk (f : Nat) (a : SSd × Int) : Option (SSd × Int) := (runX (C_blk) Lt_blk (Kret Try.prog [.cell 4 26,.tmp 5] [.g tSSd,.v (.int .i64)]) f [.code (bodyOf Try.f23)] (initX [.g tSSd,.c (.int .i64)] a) : Option (ResT [.g tSSd,.v (.int .i64)]))
theorem M_blk_eq (f : Nat) (s : SSd) (id : Int) : M_blk (f + 1) (s,id) =
  bif !valS s then some ((0,0,[]),74) else bif len40n s.2.2 then bif decide (opnI id s.2.2 0 < 0) then some ((0,0,[]),17) else bif okD s then bif decide (0 ≤ opnI id s.2.2 0) && decide (opnI id s.2.2 0 < (↑(List.length s.2.2) : Int)) then some ((s.1,s.2.1,List.set s.2.2 (opnI id s.2.2 0).toNat (upT (upT (upT (upT (upH true)))) (List.getD s.2.2 (opnI id s.2.2 0).toNat zQ))),0) else none else none else none := by kernel_rfl
noncomputable def F_blk : (SSd × Int) → SSd × Int
 | (s,id) => bif !valS s then ((0,0,[]),74) else bif decide (opnI id s.2.2 0 < 0) then ((0,0,[]),17) else ((s.1,s.2.1,List.set s.2.2 (opnI id s.2.2 0).toNat (upT (upT (upT (upT (upH true)))) (List.getD s.2.2 (opnI id s.2.2 0).toNat zQ))),0)
noncomputable def P_blk : (SSd × Int) → Bool
 | (s,id) => bif !valS s then true else len40n s.2.2 && bif decide (opnI id s.2.2 0 < 0) then true else okD s && (decide (0 ≤ opnI id s.2.2 0) && decide (opnI id s.2.2 0 < (↑(List.length s.2.2) : Int)))
theorem blk_auto : ∀ a : SSd × Int,Rns (fun f => M_blk f a) (P_blk a) (F_blk a)
 | (s,id) => ev_step (fun f => M_blk_eq f _ _) (ev_bif ev_some (ev_chk (ev_bif ev_some (ev_chk (ev_chk1 ev_some)))))
noncomputable def D_wak_45 : InlD := ⟨45,bodyOf Try.f45,32,pmT [],[.cell 6 26,.tmp 7],[]⟩
theorem D_wak_45_ok : D_wak_45.Ok Try.prog := inl_ok Try.func45 rfl rfl rfl (by kernel_rfl)
noncomputable def D_wak_53 : InlD := ⟨53,bodyOf Try.f53,65,pmT [(5,([(0,[]),(1,[]),(2,[]),(3,[]),(4,[]),(5,[]),(6,[]),(7,[]),(8,[]),(9,[]),(10,[]),(11,[]),(12,[]),(13,[]),(14,[]),(15,[]),(16,[]),(17,[]),(18,[]),(19,[]),(20,[]),(21,[]),(22,[]),(23,[]),(24,[]),(25,[]),(26,[]),(27,[])],[(35,61)])),(2,([(0,[]),(1,[]),(2,[]),(3,[]),(4,[]),(5,[]),(6,[]),(7,[]),(8,[]),(9,[]),(10,[]),(11,[]),(12,[])],[(12,23)]))],[.tmp 4],[]⟩
theorem D_wak_53_ok : D_wak_53.Ok Try.prog := inl_ok Try.func53 rfl rfl rfl (by kernel_rfl)
noncomputable def C_wak : Cfg := ⟨Try.prog,[E_val,E_cg1,E_dix,E_clo,E_irt],pmT [],11,[],[],[D_wak_45,D_wak_53],[]⟩
theorem es_wak : EsOk Try.prog [E_val,E_cg1,E_dix,E_clo,E_irt] [] [D_wak_45,D_wak_53] := es_cons E_val_ok (es_cons E_cg1_ok (es_cons E_dix_ok (es_cons E_clo_ok (es_cons E_irt_ok ((il_cons D_wak_45_ok (il_cons D_wak_53_ok es_nil)))))))
def Lt_wak : Nat → LD := ldT []
noncomputable def M_wak (f : Nat) (a : SSd × Int) : Option (SSd × Int) := (runX (C_wak) Lt_wak (Kret Try.prog [.cell 4 26,.tmp 5] [.g tSSd,.v (.int .i64)]) f [.code (bodyOf Try.f25)] (initX [.g tSSd,.c (.int .i64)] a) : Option (ResT [.g tSSd,.v (.int .i64)]))
theorem M_wak_eq (f : Nat) (s : SSd) (id : Int) : M_wak (f + 1) (s,id) =
  bif !valS s then some ((0,0,[]),74) else bif len40n s.2.2 then bif decide (opnI id s.2.2 0 < 0) then some ((0,0,[]),17) else bif okD s then bif decide (0 ≤ opnI id s.2.2 0) && decide (opnI id s.2.2 0 < (↑(List.length s.2.2) : Int)) then bif !(List.getD s.2.2 (opnI id s.2.2 0).toNat zQ).2.2.2.2.1 then some ((s.1,s.2.1,List.set s.2.2 (opnI id s.2.2 0).toNat (upT (upT (upT (upT (upH false)))) (List.getD s.2.2 (opnI id s.2.2 0).toNat zQ))),0) else bif (List.getD s.2.2 (opnI id s.2.2 0).toNat zQ).2.1 == 0 then bif (List.getD s.2.2 (opnI id s.2.2 0).toNat zQ).2.2.1 != 0 then some ((s.1,s.2.1,(List.set s.2.2 (opnI id s.2.2 0).toNat (upT (upT (upT (upT (upT (upT (upT (upT (upH (if IntKind.i64.wrap ((IntKind.i64.wrap ((List.getD s.2.2 (opnI id s.2.2 0).toNat zQ).2.2.2.1 * IntKind.i64.wrap ((List.getD s.2.2 (opnI id s.2.2 0).toNat zQ).2.2.2.2.2.2.2.1 - s.1))).tdiv (List.getD s.2.2 (opnI id s.2.2 0).toNat zQ).2.2.1) < (List.getD s.2.2 (opnI id s.2.2 0).toNat zQ).2.2.2.2.2.2.2.2.1 then IntKind.i64.wrap ((IntKind.i64.wrap ((List.getD s.2.2 (opnI id s.2.2 0).toNat zQ).2.2.2.1 * IntKind.i64.wrap ((List.getD s.2.2 (opnI id s.2.2 0).toNat zQ).2.2.2.2.2.2.2.1 - s.1))).tdiv (List.getD s.2.2 (opnI id s.2.2 0).toNat zQ).2.2.1) else (List.getD s.2.2 (opnI id s.2.2 0).toNat zQ).2.2.2.2.2.2.2.2.1))))))))) (List.getD s.2.2 (opnI id s.2.2 0).toNat zQ))).set (opnI id s.2.2 0).toNat (upT (upT (upT (upT (upH false)))) ((List.set s.2.2 (opnI id s.2.2 0).toNat (upT (upT (upT (upT (upT (upT (upT (upT (upH (if IntKind.i64.wrap ((IntKind.i64.wrap ((List.getD s.2.2 (opnI id s.2.2 0).toNat zQ).2.2.2.1 * IntKind.i64.wrap ((List.getD s.2.2 (opnI id s.2.2 0).toNat zQ).2.2.2.2.2.2.2.1 - s.1))).tdiv (List.getD s.2.2 (opnI id s.2.2 0).toNat zQ).2.2.1) < (List.getD s.2.2 (opnI id s.2.2 0).toNat zQ).2.2.2.2.2.2.2.2.1 then IntKind.i64.wrap ((IntKind.i64.wrap ((List.getD s.2.2 (opnI id s.2.2 0).toNat zQ).2.2.2.1 * IntKind.i64.wrap ((List.getD s.2.2 (opnI id s.2.2 0).toNat zQ).2.2.2.2.2.2.2.1 - s.1))).tdiv (List.getD s.2.2 (opnI id s.2.2 0).toNat zQ).2.2.1) else (List.getD s.2.2 (opnI id s.2.2 0).toNat zQ).2.2.2.2.2.2.2.2.1))))))))) (List.getD s.2.2 (opnI id s.2.2 0).toNat zQ))).getD (opnI id s.2.2 0).toNat zQ))),0) else none else some ((s.1,s.2.1,(List.set s.2.2 (opnI id s.2.2 0).toNat (upT (upT (upT (upT (upT (upT (upT (upT (upT (upH (if s.2.1 > (List.getD s.2.2 (opnI id s.2.2 0).toNat zQ).2.2.2.2.2.2.2.2.2.1 then s.2.1 else (List.getD s.2.2 (opnI id s.2.2 0).toNat zQ).2.2.2.2.2.2.2.2.2.1)))))))))) (List.getD s.2.2 (opnI id s.2.2 0).toNat zQ))).set (opnI id s.2.2 0).toNat (upT (upT (upT (upT (upH false)))) ((List.set s.2.2 (opnI id s.2.2 0).toNat (upT (upT (upT (upT (upT (upT (upT (upT (upT (upH (if s.2.1 > (List.getD s.2.2 (opnI id s.2.2 0).toNat zQ).2.2.2.2.2.2.2.2.2.1 then s.2.1 else (List.getD s.2.2 (opnI id s.2.2 0).toNat zQ).2.2.2.2.2.2.2.2.2.1)))))))))) (List.getD s.2.2 (opnI id s.2.2 0).toNat zQ))).getD (opnI id s.2.2 0).toNat zQ))),0) else none else none else none := by kernel_rfl
noncomputable def F_wak : (SSd × Int) → SSd × Int
 | (s,id) => bif !valS s then ((0,0,[]),74) else bif decide (opnI id s.2.2 0 < 0) then ((0,0,[]),17) else bif !(List.getD s.2.2 (opnI id s.2.2 0).toNat zQ).2.2.2.2.1 then ((s.1,s.2.1,List.set s.2.2 (opnI id s.2.2 0).toNat (upT (upT (upT (upT (upH false)))) (List.getD s.2.2 (opnI id s.2.2 0).toNat zQ))),0) else bif (List.getD s.2.2 (opnI id s.2.2 0).toNat zQ).2.1 == 0 then ((s.1,s.2.1,(List.set s.2.2 (opnI id s.2.2 0).toNat (upT (upT (upT (upT (upT (upT (upT (upT (upH (if IntKind.i64.wrap ((IntKind.i64.wrap ((List.getD s.2.2 (opnI id s.2.2 0).toNat zQ).2.2.2.1 * IntKind.i64.wrap ((List.getD s.2.2 (opnI id s.2.2 0).toNat zQ).2.2.2.2.2.2.2.1 - s.1))).tdiv (List.getD s.2.2 (opnI id s.2.2 0).toNat zQ).2.2.1) < (List.getD s.2.2 (opnI id s.2.2 0).toNat zQ).2.2.2.2.2.2.2.2.1 then IntKind.i64.wrap ((IntKind.i64.wrap ((List.getD s.2.2 (opnI id s.2.2 0).toNat zQ).2.2.2.1 * IntKind.i64.wrap ((List.getD s.2.2 (opnI id s.2.2 0).toNat zQ).2.2.2.2.2.2.2.1 - s.1))).tdiv (List.getD s.2.2 (opnI id s.2.2 0).toNat zQ).2.2.1) else (List.getD s.2.2 (opnI id s.2.2 0).toNat zQ).2.2.2.2.2.2.2.2.1))))))))) (List.getD s.2.2 (opnI id s.2.2 0).toNat zQ))).set (opnI id s.2.2 0).toNat (upT (upT (upT (upT (upH false)))) ((List.set s.2.2 (opnI id s.2.2 0).toNat (upT (upT (upT (upT (upT (upT (upT (upT (upH (if IntKind.i64.wrap ((IntKind.i64.wrap ((List.getD s.2.2 (opnI id s.2.2 0).toNat zQ).2.2.2.1 * IntKind.i64.wrap ((List.getD s.2.2 (opnI id s.2.2 0).toNat zQ).2.2.2.2.2.2.2.1 - s.1))).tdiv (List.getD s.2.2 (opnI id s.2.2 0).toNat zQ).2.2.1) < (List.getD s.2.2 (opnI id s.2.2 0).toNat zQ).2.2.2.2.2.2.2.2.1 then IntKind.i64.wrap ((IntKind.i64.wrap ((List.getD s.2.2 (opnI id s.2.2 0).toNat zQ).2.2.2.1 * IntKind.i64.wrap ((List.getD s.2.2 (opnI id s.2.2 0).toNat zQ).2.2.2.2.2.2.2.1 - s.1))).tdiv (List.getD s.2.2 (opnI id s.2.2 0).toNat zQ).2.2.1) else (List.getD s.2.2 (opnI id s.2.2 0).toNat zQ).2.2.2.2.2.2.2.2.1))))))))) (List.getD s.2.2 (opnI id s.2.2 0).toNat zQ))).getD (opnI id s.2.2 0).toNat zQ))),0) else ((s.1,s.2.1,(List.set s.2.2 (opnI id s.2.2 0).toNat (upT (upT (upT (upT (upT (upT (upT (upT (upT (upH (if s.2.1 > (List.getD s.2.2 (opnI id s.2.2 0).toNat zQ).2.2.2.2.2.2.2.2.2.1 then s.2.1 else (List.getD s.2.2 (opnI id s.2.2 0).toNat zQ).2.2.2.2.2.2.2.2.2.1)))))))))) (List.getD s.2.2 (opnI id s.2.2 0).toNat zQ))).set (opnI id s.2.2 0).toNat (upT (upT (upT (upT (upH false)))) ((List.set s.2.2 (opnI id s.2.2 0).toNat (upT (upT (upT (upT (upT (upT (upT (upT (upT (upH (if s.2.1 > (List.getD s.2.2 (opnI id s.2.2 0).toNat zQ).2.2.2.2.2.2.2.2.2.1 then s.2.1 else (List.getD s.2.2 (opnI id s.2.2 0).toNat zQ).2.2.2.2.2.2.2.2.2.1)))))))))) (List.getD s.2.2 (opnI id s.2.2 0).toNat zQ))).getD (opnI id s.2.2 0).toNat zQ))),0)
noncomputable def P_wak : (SSd × Int) → Bool
 | (s,id) => bif !valS s then true else len40n s.2.2 && bif decide (opnI id s.2.2 0 < 0) then true else okD s && (decide (0 ≤ opnI id s.2.2 0) && decide (opnI id s.2.2 0 < (↑(List.length s.2.2) : Int)) && bif !(List.getD s.2.2 (opnI id s.2.2 0).toNat zQ).2.2.2.2.1 then true else bif (List.getD s.2.2 (opnI id s.2.2 0).toNat zQ).2.1 == 0 then (List.getD s.2.2 (opnI id s.2.2 0).toNat zQ).2.2.1 != 0 else true)
theorem wak_auto : ∀ a : SSd × Int,Rns (fun f => M_wak f a) (P_wak a) (F_wak a)
 | (s,id) => ev_step (fun f => M_wak_eq f _ _) (ev_bif ev_some (ev_chk (ev_bif ev_some (ev_chk (ev_chk (ev_bif ev_some (ev_bif (ev_chk1 ev_some) ev_some)))))))
noncomputable def D_ena_45 : InlD := ⟨45,bodyOf Try.f45,32,pmT [],[.cell 6 26,.tmp 7],[]⟩
theorem D_ena_45_ok : D_ena_45.Ok Try.prog := inl_ok Try.func45 rfl rfl rfl (by kernel_rfl)
noncomputable def D_ena_55 : InlD := ⟨55,bodyOf Try.f55,12,pmT [],[.tmp 4],[]⟩
theorem D_ena_55_ok : D_ena_55.Ok Try.prog := inl_ok Try.func55 rfl rfl rfl (by kernel_rfl)
noncomputable def C_ena : Cfg := ⟨Try.prog,[E_val,E_cg1,E_dix,E_clo],pmT [],11,[],[],[D_ena_45,D_ena_55],[]⟩
theorem es_ena : EsOk Try.prog [E_val,E_cg1,E_dix,E_clo] [] [D_ena_45,D_ena_55] := es_cons E_val_ok (es_cons E_cg1_ok (es_cons E_dix_ok (es_cons E_clo_ok ((il_cons D_ena_45_ok (il_cons D_ena_55_ok es_nil))))))
def Lt_ena : Nat → LD := ldT []
noncomputable def M_ena (f : Nat) (a : SSd × Int) : Option (SSd × Int) := (runX (C_ena) Lt_ena (Kret Try.prog [.cell 4 26,.tmp 5] [.g tSSd,.v (.int .i64)]) f [.code (bodyOf Try.f29)] (initX [.g tSSd,.c (.int .i64)] a) : Option (ResT [.g tSSd,.v (.int .i64)]))
theorem M_ena_eq (f : Nat) (s : SSd) (id : Int) : M_ena (f + 1) (s,id) =
  bif !valS s then some ((0,0,[]),74) else bif len40n s.2.2 then bif decide (opnI id s.2.2 0 < 0) then some ((0,0,[]),17) else bif okD s then bif decide (0 ≤ opnI id s.2.2 0) && decide (opnI id s.2.2 0 < (↑(List.length s.2.2) : Int)) then some ((s.1,s.2.1,List.set s.2.2 (opnI id s.2.2 0).toNat (upT (upT (upT (upT (upT (upH false))))) (List.getD s.2.2 (opnI id s.2.2 0).toNat zQ))),0) else none else none else none := by kernel_rfl
noncomputable def F_ena : (SSd × Int) → SSd × Int
 | (s,id) => bif !valS s then ((0,0,[]),74) else bif decide (opnI id s.2.2 0 < 0) then ((0,0,[]),17) else ((s.1,s.2.1,List.set s.2.2 (opnI id s.2.2 0).toNat (upT (upT (upT (upT (upT (upH false))))) (List.getD s.2.2 (opnI id s.2.2 0).toNat zQ))),0)
noncomputable def P_ena : (SSd × Int) → Bool
 | (s,id) => bif !valS s then true else len40n s.2.2 && bif decide (opnI id s.2.2 0 < 0) then true else okD s && (decide (0 ≤ opnI id s.2.2 0) && decide (opnI id s.2.2 0 < (↑(List.length s.2.2) : Int)))
theorem ena_auto : ∀ a : SSd × Int,Rns (fun f => M_ena f a) (P_ena a) (F_ena a)
 | (s,id) => ev_step (fun f => M_ena_eq f _ _) (ev_bif ev_some (ev_chk (ev_bif ev_some (ev_chk (ev_chk1 ev_some)))))
end Go.AL
namespace Go.Proofs
open Go.Shelf Go.RowKit Go.Lib Go.AL
set_option maxHeartbeats 4000000 in
set_option maxRecDepth 100000 in
theorem ddl_walk (b N c i : Nat) (cs : List Value) (cur : Array Value) (w : World) (hi : i ≤ N) (hnc : N + 1 ≤ c) (hmax : c ≤ maxLen)
  (hb : w.heap[b]? = some (.cells cur 53 (0,0))) (hsz : cur.size = c * 11) (hcs : cur.toList.take ((N + 1) * 11) = cs) (hcl : cs.length = (N + 1) * 11) (h1c : ∀ v ∈ cs,v.oneCell' = true) :
  Calls Try.prog 47 #[.slice (some ⟨b,0,none⟩) (N + 1) c,.int .i64 i,.int .i64 ((i : Int) + 1)] w fun e w' =>
   ∃ s',e = .returned s' ∧ InsOut w 53 11 (.slice (some ⟨b,0,none⟩) (N + 1) c) N (cs.take (i * 11) ++ cs.drop ((i + 1) * 11)) s' w' := by
 have hc63 : c ≤ 9223372036854775807 := by simp only [maxLen] at hmax; omega
 have hty : (Try.prog.info? 53).map (·.size) = some 11 := by kernel_rfl
 have ht : Try.prog.underlying 24 = some (.slice 53) := Try.underlying24
 obtain ⟨i0,hi0,hz0,hzs,hzb⟩ := info_parts (P := Try.prog) (e := 53) (z := .agg #[.int .i64 0,.int .i64 0,.int .i64 0,.int .i64 0,.bool false,.bool false,.bool false,.int .i64 0,.int .i64 0,.int .i64 0,.slice none 0 0]) (size := 11) (bytes := 88) (by kernel_rfl)
 obtain ⟨news,hnews⟩ : ∃ news,news = cs.drop ((i + 1) * 11) := ⟨_,rfl⟩
 have hnl : news.length = (N - i) * 11 := by rw [hnews,List.length_drop,hcl]; omega
 obtain ⟨C1,hC1⟩ : ∃ C1,C1 = cur.toList.take (i * 11) ++ news ++ cur.toList.drop (i * 11 + news.length) := ⟨_,rfl⟩
 have hcN : (N + 1) * 11 ≤ c * 11 := Nat.mul_le_mul_right 11 hnc
 have hl1 : C1.length = c * 11 := by
  rw [hC1]
  simp only [List.length_append,List.length_take,List.length_drop,Array.length_toList,hsz,hnl]
  omega
 obtain ⟨A,hA,hsrc⟩ : ∃ A : Addr,(if c = i + 1 then some (⟨b,0,none⟩ : Addr) else some ⟨b,(i + 1) * 11,none⟩) = some A ∧ (∀ t u,news[t]? = some u → w.drew.cell? (A.add t) = some u) := by
  by_cases h : c = i + 1
  ·refine ⟨⟨b,0,none⟩,by simp [h],fun t u hu => ?_⟩
   have h0 : news.length = 0 := by rw [hnl]; omega
   rw [List.length_eq_zero_iff.1 h0] at hu
   simp at hu
  ·refine ⟨⟨b,(i + 1) * 11,none⟩,by simp [h],fun t u hu => ?_⟩
   rw [Addr.add_lit]
   exact cell_row (w := w.drew) hb hcs _ u (by rw [hnews,List.getElem?_drop] at hu; exact hu)
 have hap : ∀ ty,(Builtin.append_ #[24,24] ty #[.slice (some ⟨b,0,none⟩) i c,.slice (some A) (N - i) (c - (i + 1))]).run Try.prog w.drew = .ok (.slice (some ⟨b,0,none⟩) N c) (w.drew.setRow b C1.toArray) := fun ty => by
  have h := run_append_room (P := Try.prog) w.drew 24 ty 53 i0 ht hi0 b i c cur hb A (N - i) (c - (i + 1)) news (by rw [hzs]; exact hnl) hsrc (fun u hu => h1c u (by rw [hnews] at hu; exact List.mem_of_mem_drop hu)) (by omega) (by rw [hzs,hnl,hsz]; omega)
  rw [show i + (N - i) = N by omega] at h
  rw [h,hC1,hzs]
 obtain ⟨W1,hW1⟩ : ∃ W1,W1 = w.drew.setRow b C1.toArray := ⟨_,rfl⟩
 have hbW : W1.heap[b]? = some (.cells C1.toArray 53 (0,0)) := by rw [hW1]; exact setRow_heap w.drew b cur _ 53 _ hb
 have hE1 : Ev w W1 (fun q => q = b) := by rw [hW1]; exact ⟨rfl,rfl,rfl,by rw [setRow_size]; exact Nat.le_refl _,fun q _ hq => setRow_other w.drew b q _ hq⟩
 rw [← hW1] at hap
 obtain ⟨zs,hzl,hcle0⟩ := run_clear_row (P := Try.prog) W1 24 53 0 (.agg #[.int .i64 0,.int .i64 0,.int .i64 0,.int .i64 0,.bool false,.bool false,.bool false,.int .i64 0,.int .i64 0,.int .i64 0,.slice none 0 0]) 11 ht (fun w => by kernel_rfl) rfl (by intro v hv; simp [Value.cells] at hv; repeat (first | (subst hv; rfl) | (rcases hv with rfl | hv; · rfl))) b (N * 11) (c - N) C1.toArray hbW (by rw [List.size_toArray,hl1]; omega)
 obtain ⟨C2,hC2⟩ : ∃ C2,C2 = C1.take (N * 11) ++ zs ++ C1.drop (N * 11 + zs.length) := ⟨_,rfl⟩
 have hcle : ∀ ty,(Builtin.clear_ #[24] ty #[.slice (some ⟨b,N * 11,none⟩) 1 (c - N)]).run Try.prog W1 = .ok (.tuple #[]) (W1.setRow b C2.toArray) := fun ty => by rw [hC2]; exact hcle0
 have hl2 : C2.length = c * 11 := by
  rw [hC2]
  simp only [List.length_append,List.length_take,List.length_drop,hl1,hzl]
  omega
 have hfin : C2.take (N * 11) = cs.take (i * 11) ++ news := by
  have e0 : cur.toList.take (i * 11) = cs.take (i * 11) := by
   rw [← hcs,List.take_take]; congr 1; omega
  have htl : (cs.take (i * 11)).length = i * 11 := by rw [List.length_take,hcl]; omega
  have hl : (cs.take (i * 11) ++ news).length = N * 11 := by rw [List.length_append,htl,hnl]; omega
  have e1 : C1.take (N * 11) = cs.take (i * 11) ++ news := by
   rw [hC1,e0,← hl]; exact List.take_left
  rw [hC2,e1,List.append_assoc,← hl]; exact List.take_left
 have hout : InsOut w 53 11 (.slice (some ⟨b,0,none⟩) (N + 1) c) N (cs.take (i * 11) ++ news) (.slice (some ⟨b,0,none⟩) N c) (W1.setRow b C2.toArray) :=
  ⟨by rw [← hfin,List.length_take,hl2]; omega,⟨b,c,C2.toArray,rfl,setRow_heap W1 b C1.toArray _ 53 _ hbW,by omega,hmax,by rw [List.size_toArray,hl2],by simpa using hfin,.inl rfl⟩,
   ev_trans ⟨hE1.os,hE1.tape,hE1.output,hE1.size,fun q hq hn => hE1.block q hq (fun e => hn (by rw [e]; rfl))⟩ (ev_setRow W1 b _ _ rfl)⟩
 rw [← hnews]
 obtain ⟨IO,hIO⟩ : ∃ IO,IO = InsOut w 53 11 (.slice (some ⟨b,0,none⟩) (N + 1) c) N (cs.take (i * 11) ++ news) := ⟨_,rfl⟩
 rw [← hIO] at hout ⊢
 have hz2 : ¬ ((i : Int) = (i : Int) + 1) := by omega
 have hb1 : (0 : Int) ≤ (i : Int) + 1 := by omega
 have htn : ((i : Int) + 1).toNat = i + 1 := by omega
 have hb3 : (i : Int) + 1 ≤ (N : Int) + 1 := by omega
 have hb5 : (i : Int) ≤ (i : Int) + 1 := by omega
 have hb6 : (N : Int) + 1 ≤ (c : Int) := by omega
 have hb7 : (i : Int) ≤ (c : Int) := by omega
 have hb8 : (N : Int) ≤ (N : Int) + 1 := by omega
 have hb9 : ¬ (c = N) := by omega
 have hb10 : i ≤ c := by omega
 have hb11 : i + 1 ≤ c := by omega
 have htn2 : ((N : Int) + 1).toNat = N + 1 := by omega
 have mixed : Try.prog.follows .mixedOrders = true := by kernel_rfl
 clear hcle0 hIO hfin hl2 hC2 hl1 hC1 hbW hb hsz hcs hsrc hnl hnews hE1 hW1
 go_enter Try.func47,Try.ntmps47
 go_wp2_with fail
 go_region_law_o (refine step_append_runI rfl (.tmp 22) (.tmp 25) 24 24 rfl _ _ (by simp [Act.eval,Act.put]) (by simp [Act.eval,Act.put,hA]) (hap _) ?_)
 go_wp2
 go_ret
 exact ⟨_,rfl,hout⟩
end Go.Proofs
namespace Go.AL
open Go.Proofs
noncomputable def E_ddl : EntL := delE 47 53 11 tSDs
theorem E_ddl_ok : E_ddl.Ok Try.prog := delE_ok (by omega) (fun w b N c i cs cur h1 h2 h3 h4 h5 h6 h7 h8 => ddl_walk b N c i cs cur w h1 h2 h3 h4 h5 h6 h7 h8)
noncomputable def D_rem_45 : InlD := ⟨45,bodyOf Try.f45,32,pmT [],[.cell 6 26,.tmp 7],[]⟩
theorem D_rem_45_ok : D_rem_45.Ok Try.prog := inl_ok Try.func45 rfl rfl rfl (by kernel_rfl)
noncomputable def D_rem_46 : InlD := ⟨46,bodyOf Try.f46,41,pmT [],[.tmp 4],[]⟩
theorem D_rem_46_ok : D_rem_46.Ok Try.prog := inl_ok Try.func46 rfl rfl rfl (by kernel_rfl)
noncomputable def C_rem : Cfg := ⟨Try.prog,[E_val,E_cg1,E_dix,E_clo,E_irt],pmT [],11,[E_ddl],[],[D_rem_45,D_rem_46],[]⟩
theorem es_rem : EsOk Try.prog [E_val,E_cg1,E_dix,E_clo,E_irt] [E_ddl] [D_rem_45,D_rem_46] := el_cons E_ddl_ok (es_cons E_val_ok (es_cons E_cg1_ok (es_cons E_dix_ok (es_cons E_clo_ok (es_cons E_irt_ok ((il_cons D_rem_45_ok (il_cons D_rem_46_ok es_nil))))))))
def Lt_rem : Nat → LD := ldT []
noncomputable def M_rem (f : Nat) (a : SSd × Int) : Option (SSd × Int) := (runX (C_rem) Lt_rem (Kret Try.prog [.cell 4 26,.tmp 5] [.g tSSd,.v (.int .i64)]) f [.code (bodyOf Try.f15)] (initX [.g tSSd,.c (.int .i64)] a) : Option (ResT [.g tSSd,.v (.int .i64)]))
theorem M_rem_eq (f : Nat) (s : SSd) (id : Int) : M_rem (f + 1) (s,id) =
  bif !valS s then some ((0,0,[]),74) else bif len40n s.2.2 then bif decide (opnI id s.2.2 0 < 0) then some ((0,0,[]),17) else bif okD s then bif decide (0 ≤ opnI id s.2.2 0) && decide (opnI id s.2.2 0 < (↑(List.length s.2.2) : Int)) then bif !(List.getD s.2.2 (opnI id s.2.2 0).toNat zQ).2.1 == 0 then bif delP s.2.2 (opnI id s.2.2 0,IntKind.i64.wrap (opnI id s.2.2 0 + 1)) then some ((s.1,s.2.1,delF s.2.2 (opnI id s.2.2 0,IntKind.i64.wrap (opnI id s.2.2 0 + 1))),0) else none else bif decide (0 ≤ opnI id s.2.2 0) && decide (opnI id s.2.2 0 < (↑(List.length s.2.2) : Int)) then some ((s.1,s.2.1,((List.set s.2.2 (opnI id s.2.2 0).toNat (upT (upT (upT (upT (upT (upT (upH true)))))) (List.getD s.2.2 (opnI id s.2.2 0).toNat zQ))).set (opnI id s.2.2 0).toNat (upT (upT (upT (upT (upT (upH false))))) ((List.set s.2.2 (opnI id s.2.2 0).toNat (upT (upT (upT (upT (upT (upT (upH true)))))) (List.getD s.2.2 (opnI id s.2.2 0).toNat zQ))).getD (opnI id s.2.2 0).toNat zQ))).set (opnI id s.2.2 0).toNat (upT (upT (upT (upT (upT (upT (upT (upT (upT (upS []))))))))) (((List.set s.2.2 (opnI id s.2.2 0).toNat (upT (upT (upT (upT (upT (upT (upH true)))))) (List.getD s.2.2 (opnI id s.2.2 0).toNat zQ))).set (opnI id s.2.2 0).toNat (upT (upT (upT (upT (upT (upH false))))) ((List.set s.2.2 (opnI id s.2.2 0).toNat (upT (upT (upT (upT (upT (upT (upH true)))))) (List.getD s.2.2 (opnI id s.2.2 0).toNat zQ))).getD (opnI id s.2.2 0).toNat zQ))).getD (opnI id s.2.2 0).toNat zQ))),0) else none else none else none else none := by kernel_rfl
noncomputable def F_rem : (SSd × Int) → SSd × Int
 | (s,id) => bif !valS s then ((0,0,[]),74) else bif decide (opnI id s.2.2 0 < 0) then ((0,0,[]),17) else bif !(List.getD s.2.2 (opnI id s.2.2 0).toNat zQ).2.1 == 0 then ((s.1,s.2.1,delF s.2.2 (opnI id s.2.2 0,IntKind.i64.wrap (opnI id s.2.2 0 + 1))),0) else ((s.1,s.2.1,((List.set s.2.2 (opnI id s.2.2 0).toNat (upT (upT (upT (upT (upT (upT (upH true)))))) (List.getD s.2.2 (opnI id s.2.2 0).toNat zQ))).set (opnI id s.2.2 0).toNat (upT (upT (upT (upT (upT (upH false))))) ((List.set s.2.2 (opnI id s.2.2 0).toNat (upT (upT (upT (upT (upT (upT (upH true)))))) (List.getD s.2.2 (opnI id s.2.2 0).toNat zQ))).getD (opnI id s.2.2 0).toNat zQ))).set (opnI id s.2.2 0).toNat (upT (upT (upT (upT (upT (upT (upT (upT (upT (upS []))))))))) (((List.set s.2.2 (opnI id s.2.2 0).toNat (upT (upT (upT (upT (upT (upT (upH true)))))) (List.getD s.2.2 (opnI id s.2.2 0).toNat zQ))).set (opnI id s.2.2 0).toNat (upT (upT (upT (upT (upT (upH false))))) ((List.set s.2.2 (opnI id s.2.2 0).toNat (upT (upT (upT (upT (upT (upT (upH true)))))) (List.getD s.2.2 (opnI id s.2.2 0).toNat zQ))).getD (opnI id s.2.2 0).toNat zQ))).getD (opnI id s.2.2 0).toNat zQ))),0)
noncomputable def P_rem : (SSd × Int) → Bool
 | (s,id) => bif !valS s then true else len40n s.2.2 && bif decide (opnI id s.2.2 0 < 0) then true else okD s && (decide (0 ≤ opnI id s.2.2 0) && decide (opnI id s.2.2 0 < (↑(List.length s.2.2) : Int)) && bif !(List.getD s.2.2 (opnI id s.2.2 0).toNat zQ).2.1 == 0 then delP s.2.2 (opnI id s.2.2 0,IntKind.i64.wrap (opnI id s.2.2 0 + 1)) else decide (0 ≤ opnI id s.2.2 0) && decide (opnI id s.2.2 0 < (↑(List.length s.2.2) : Int)))
theorem rem_auto : ∀ a : SSd × Int,Rns (fun f => M_rem f a) (P_rem a) (F_rem a)
 | (s,id) => ev_step (fun f => M_rem_eq f _ _) (ev_bif ev_some (ev_chk (ev_bif ev_some (ev_chk (ev_chk (ev_bif (ev_chk1 ev_some) (ev_chk1 ev_some)))))))
end Go.AL
namespace Go.AL
open Go.Proofs
end Go.AL
namespace Go.Proofs
open Go.Shelf Go.RowKit Go.Lib Go.AL
set_option maxHeartbeats 4000000 in
set_option maxRecDepth 100000 in
theorem din_shift (b n c i vb vc : Nat) (cs vs : List Value) (cur cur2 : Array Value) (w : World) (hi : i < n) (hroom : n + 1 ≤ c) (hmax : c ≤ maxLen) (hvb : vb ≠ b)
  (hb : w.heap[b]? = some (.cells cur 53 (0,0))) (hsz : cur.size = c * 11) (hcs : cur.toList.take (n * 11) = cs) (hcl : cs.length = n * 11)
  (hv : w.heap[vb]? = some (.cells cur2 53 (0,0))) (hvs : cur2.toList.take 11 = vs) (hvl : vs.length = 11) (h1c : ∀ v ∈ cs,v.oneCell' = true) (h1v : ∀ v ∈ vs,v.oneCell' = true) :
  Calls Try.prog 38 #[.slice (some ⟨b,0,none⟩) n c,.int .i64 i,.slice (some ⟨vb,0,none⟩) 1 vc] w fun e w' =>
   ∃ s',e = .returned s' ∧ InsOut w 53 11 (.slice (some ⟨b,0,none⟩) n c) (n + 1) (cs.take (i * 11) ++ vs ++ cs.drop (i * 11)) s' w' := by
 have hfit : (n + 1) * 11 ≤ cur.toList.length := by rw [Array.length_toList,hsz]; exact Nat.mul_le_mul_right 11 hroom
 obtain ⟨l1,l2,l3⟩ := ins_lists (k := 11) (Nat.le_of_lt hi) hcs hcl hvl hfit
 have hc63 : c ≤ 9223372036854775807 := by simp only [maxLen] at hmax; omega
 have hz2 : ¬ ((i : Int) = (n : Int)) := by omega
 have hz3 : ¬ ((c : Int) < (n : Int) + 1) := by omega
 have hin : i ≤ n := by omega
 have hty : (Try.prog.info? 53).map (·.size) = some 11 := by kernel_rfl
 have ht : Try.prog.underlying 24 = some (.slice 53) := Try.underlying24
 have hov : ∀ lb cb,(callFunc 59 #[.slice (some ⟨vb,0,none⟩) 1 vc,.slice (some ⟨b,(i + 1) * 11,none⟩) lb cb]).run Try.prog w = .ok (.value (.bool false)) w := fun lb cb => by
  rw [run_callFunc_extern Try.func59 (by kernel_rfl) (by kernel_rfl) (by kernel_rfl) (e := Extern.SlicesOverlaps.overlaps #[24,24] #[4]) (by kernel_rfl),
   Lib.run_overlaps_apart w 24 4 53 ht 11 (fun w => by kernel_rfl) ⟨vb,0,none⟩ ⟨b,(i + 1) * 11,none⟩ 1 vc lb cb hvb 53 53 cur2.size cur.size (by simp [World.shape?,hv]) (by simp [World.shape?,hb]) (by rw [hsz]; omega) (by simp [World.frozen?,hv]) (by simp [World.frozen?,hv])]
  rfl
 have hdl : (cs.drop (i * 11)).length = (n - i) * 11 := by rw [List.length_drop,hcl]; omega
 have hw1 : IntKind.i64.wrap ((i : Int) + 1) = (i : Int) + 1 := by rw [IntKind.wrap_i64]; omega
 have hw2 : IntKind.i64.wrap ((n : Int) + 1) = (n : Int) + 1 := by rw [IntKind.wrap_i64]; omega
 have hb1 : (0 : Int) ≤ (i : Int) + 1 := by omega
 have htn : ((i : Int) + 1).toNat = i + 1 := by omega
 have htn2 : ((n : Int) + 1).toNat = n + 1 := by omega
 have hb2 : ¬ (c = i + 1) := by omega
 have hb3 : (i : Int) + 1 ≤ (n : Int) + 1 := by omega
 have hb4 : ¬ (c = i) := by omega
 have hb5 : (i : Int) ≤ (n : Int) + 1 := by omega
 have mixed : Try.prog.follows .mixedOrders = true := by kernel_rfl
 obtain ⟨C1,hC1⟩ : ∃ C1,C1 = cur.toList.take ((i + 1) * 11) ++ cs.drop (i * 11) ++ cur.toList.drop ((i + 1) * 11 + (cs.drop (i * 11)).length) := ⟨_,rfl⟩
 obtain ⟨C2,hC2⟩ : ∃ C2,C2 = C1.take (i * 11) ++ vs ++ C1.drop (i * 11 + vs.length) := ⟨_,rfl⟩
 rw [← hC1] at l1 l2 l3
 rw [← hC2] at l2 l3
 have hcp1 : ∀ ty dc sc,(Builtin.copy_ #[24,24] ty #[.slice (some ⟨b,(i + 1) * 11,none⟩) (n - i) dc,.slice (some ⟨b,i * 11,none⟩) (n + 1 - i) sc]).run Try.prog w.drew = .ok (goInt (Nat.min (n + 1 - i) (n - i))) (w.drew.setRow b C1.toArray) := fun ty dc sc => by
  rw [hC1]
  exact run_copy_row w.drew _ _ ty 53 11 b ((i + 1) * 11) (n - i) dc ⟨b,i * 11,none⟩ (n + 1 - i) sc (cs.drop (i * 11)) cur 53 ht hty (by rw [hdl]; simp only [Nat.min_def]; split <;> omega)
   (fun j v hj => by rw [Addr.add_lit]; exact cell_row (w := w.drew) hb hcs (i * 11 + j) v (by rwa [List.getElem?_drop] at hj)) hb (by rw [hdl]; simp only [Array.length_toList] at hfit; omega) (fun v hv => h1c v (List.mem_of_mem_drop hv))
 obtain ⟨W1,hW1⟩ : ∃ W1,W1 = w.drew.setRow b C1.toArray := ⟨_,rfl⟩
 have hbW : W1.heap[b]? = some (.cells C1.toArray 53 (0,0)) := by rw [hW1]; exact setRow_heap w.drew b cur _ 53 _ hb
 have hvW : W1.heap[vb]? = some (.cells cur2 53 (0,0)) := by rw [hW1,setRow_other w.drew b vb _ hvb]; exact hv
 have hcp2 : ∀ (W : World),W.heap = W1.heap → ∀ ty dc,(Builtin.copy_ #[24,24] ty #[.slice (some ⟨b,i * 11,none⟩) (n + 1 - i) dc,.slice (some ⟨vb,0,none⟩) 1 vc]).run Try.prog W = .ok (goInt (Nat.min 1 (n + 1 - i))) (W.setRow b C2.toArray) := fun W hW ty dc => by
  have h := run_copy_row (P := Try.prog) W 24 24 ty 53 11 b (i * 11) (n + 1 - i) dc ⟨vb,0,none⟩ 1 vc vs C1.toArray 53 ht hty (by rw [hvl]; simp only [Nat.min_def]; split <;> omega)
   (fun j v hj => by rw [Addr.add_lit,Nat.zero_add]; exact cell_row (w := W) (by rw [hW]; exact hvW) hvs j v hj) (by rw [hW]; exact hbW) (by rw [hvl,List.size_toArray,l1]; omega) h1v
  rw [h,hC2]
 have hout : ∀ W,Ev w W (fun q => q = b) → W.heap = W1.heap → InsOut w 53 11 (.slice (some ⟨b,0,none⟩) n c) (n + 1) (cs.take (i * 11) ++ vs ++ cs.drop (i * 11)) (.slice (some ⟨b,0,none⟩) (n + 1) c) (W.setRow b C2.toArray) := fun W hE hW =>
  ⟨by rw [← l3,List.length_take,l2]; omega,⟨b,c,C2.toArray,rfl,setRow_heap W b C1.toArray _ 53 _ (by rw [hW]; exact hbW),hroom,hmax,by rw [List.size_toArray,l2,Array.length_toList,hsz],by simpa using l3,.inl rfl⟩,
   ev_trans ⟨hE.os,hE.tape,hE.output,hE.size,fun q hq hn => hE.block q hq (fun e => hn (by rw [e]; rfl))⟩ (ev_setRow W b _ _ rfl)⟩
 have hE1 : Ev w W1 (fun q => q = b) := by rw [hW1]; exact ⟨rfl,rfl,rfl,by rw [setRow_size]; exact Nat.le_refl _,fun q _ hq => setRow_other w.drew b q _ hq⟩
 rw [← hW1] at hcp1
 generalize InsOut w 53 11 (.slice (some ⟨b,0,none⟩) n c) (n + 1) (cs.take (i * 11) ++ vs ++ cs.drop (i * 11)) = IO at hout ⊢
 clear l1 l2 l3 hfit hC1 hC2 hbW hvW hcs hvs hsz
 go_enter Try.func38,Try.ntmps38
 go_wp2_with (simp only [hov])
 go_region_law_o (refine step_copy_runI rfl _ _ 24 24 rfl _ _ (by simp [Act.eval,Act.put]) (by simp [Act.eval,Act.put]) (hcp1 _ _ _) ?_)
 go_wp2_with (at_builtin; refine wpList_copy_runI _ rfl _ _ 24 24 rfl _ _ rfl rfl (hcp2 _ rfl _ _) ?_)
 go_ret
 rw [← hW1]
 exact ⟨_,rfl,hout _ ⟨hE1.os,hE1.tape,hE1.output,hE1.size,hE1.block⟩ rfl⟩
set_option maxHeartbeats 4000000 in
set_option maxRecDepth 100000 in
theorem din_end (s0 : Value) (n vb vc : Nat) (cs vs : List Value) (w : World) (hown : w.ownsRow 0 53 11 s0 n cs) (hbig : (n + 1) * 88 ≤ 140737488355328) (h63 : n + 1 ≤ maxLen)
  (hvs : ∀ j v,vs[j]? = some v → w.cell? ⟨vb,j,none⟩ = some v) (hvl : vs.length = 11) (h1v : ∀ v ∈ vs,v.oneCell' = true) :
  Calls Try.prog 38 #[s0,.int .i64 n,.slice (some ⟨vb,0,none⟩) 1 vc] w fun e w' => ∃ s',e = .returned s' ∧ InsOut w 53 11 s0 (n + 1) (cs ++ vs) s' w' := by
 have ht : Try.prog.underlying 24 = some (.slice 53) := Try.underlying24
 obtain ⟨i0,hi0,hz0,hzs,hzb⟩ := info_parts (P := Try.prog) (e := 53) (z := .agg #[.int .i64 0,.int .i64 0,.int .i64 0,.int .i64 0,.bool false,.bool false,.bool false,.int .i64 0,.int .i64 0,.int .i64 0,.slice none 0 0]) (size := 11) (bytes := 88) (by kernel_rfl)
 have hrun : ∀ ty,∃ v' w',(Builtin.append_ #[24,24] ty #[s0,.slice (some ⟨vb,0,none⟩) 1 vc]).run Try.prog w = .ok v' w' ∧ InsOut w 53 11 s0 (n + 1) (cs ++ vs) v' w' := fun ty =>
  run_append_end (P := Try.prog) w 24 ty 53 i0 _ 11 88 ht hi0 hz0 hzs hzb rfl (by omega) s0 n cs hown ⟨vb,0,none⟩ 1 vc (by omega) vs (by rw [hvl]) (fun j u hj => by rw [Addr.add_lit,Nat.zero_add]; exact hvs j u hj) h1v h63 hbig
 have hn0 : (0 : Int) ≤ (n : Int) := by omega
 generalize InsOut w 53 11 s0 (n + 1) (cs ++ vs) = IO at hrun ⊢
 have hsh : (s0 = .slice none 0 0 ∧ n = 0) ∨ ∃ g cap,s0 = .slice (some ⟨g,0,none⟩) n cap ∧ n ≤ cap := by
  rcases hown.2 with h | ⟨g,cap,cur,h1,_,_,h2,_⟩
  ·exact .inl h
  ·exact .inr ⟨g,cap,h1,h2⟩
 clear hown
 obtain ⟨v1,w1,r1,o1⟩ := hrun 24
 rcases hsh with ⟨rfl,rfl⟩ | ⟨g,cap,rfl,hcap⟩
 ·go_enter Try.func38,Try.ntmps38
  go_wp2_with (at_builtin; refine Lib.wpList_append_run _ rfl _ _ _ _ rfl _ _ rfl rfl _ _ r1 ?_)
  go_ret
  exact ⟨_,rfl,o1⟩
 ·go_enter Try.func38,Try.ntmps38
  go_wp2_with (at_builtin; refine Lib.wpList_append_run _ rfl _ _ _ _ rfl _ _ rfl rfl _ _ r1 ?_)
  all_goals (go_ret; exact ⟨_,rfl,o1⟩)
set_option maxHeartbeats 4000000 in
set_option maxRecDepth 100000 in
theorem din_grow (b n c i vb vc : Nat) (cs vs : List Value) (cur cur2 : Array Value) (w : World) (hi : i < n) (hnc : n ≤ c) (hroom : c < n + 1) (h63 : n + 1 ≤ maxLen) (hbig : (n + 1) * 88 ≤ 140737488355328)
  (hb : w.heap[b]? = some (.cells cur 53 (0,0))) (hsz : cur.size = c * 11) (hcs : cur.toList.take (n * 11) = cs) (hcl : cs.length = n * 11)
  (hv : w.heap[vb]? = some (.cells cur2 53 (0,0))) (hvs : cur2.toList.take 11 = vs) (hvl : vs.length = 11) (h1c : ∀ v ∈ cs,v.oneCell' = true) (h1v : ∀ v ∈ vs,v.oneCell' = true) :
  Calls Try.prog 38 #[.slice (some ⟨b,0,none⟩) n c,.int .i64 i,.slice (some ⟨vb,0,none⟩) 1 vc] w fun e w' =>
   ∃ s',e = .returned s' ∧ InsOut w 53 11 (.slice (some ⟨b,0,none⟩) n c) (n + 1) (cs.take (i * 11) ++ vs ++ cs.drop (i * 11)) s' w' := by
 have hz2 : ¬ ((i : Int) = (n : Int)) := by omega
 have hz3 : (c : Int) < (n : Int) + 1 := by omega
 have hin : i ≤ n := by omega
 have hty : (Try.prog.info? 53).map (·.size) = some 11 := by kernel_rfl
 have ht : Try.prog.underlying 24 = some (.slice 53) := Try.underlying24
 have ht3 : Try.prog.underlying 3 = some (.int .i64) := Try.underlying3
 obtain ⟨i0,hi0,hz0,hzs,hzb⟩ := info_parts (P := Try.prog) (e := 53) (z := .agg #[.int .i64 0,.int .i64 0,.int .i64 0,.int .i64 0,.bool false,.bool false,.bool false,.int .i64 0,.int .i64 0,.int .i64 0,.slice none 0 0]) (size := 11) (bytes := 88) (by kernel_rfl)
 have h63' : n + 1 ≤ 9223372036854775807 := by simp only [maxLen] at h63; omega
 have hbw : b < w.heap.size := (Array.getElem?_eq_some_iff.1 hb).1
 have hvw : vb < w.heap.size := (Array.getElem?_eq_some_iff.1 hv).1
 have hik : i + (n + 1 - i) = n + 1 := by omega
 have hkk : (n : Int) + 1 - (i : Int) = ((n + 1 - i : Nat) : Int) := by omega
 have hold : (Builtin.firstCells i0.size i (.slice (some ⟨b,0,none⟩) i c)).run Try.prog w.drew = .ok (cs.take (i * 11)).toArray w.drew := by
  rw [hzs]
  exact run_firstCells_some w.drew 11 i ⟨b,0,none⟩ i c (cs.take (i * 11)) (by rw [List.length_take,hcl]; omega) (fun j v hj => by
   rw [Addr.add_lit,Nat.zero_add]
   rw [List.getElem?_take] at hj
   split at hj
   ·exact cell_row (w := w.drew) hb hcs j v hj
   ·cases hj)
 generalize hz : ((.agg #[.int .i64 0,.int .i64 0,.int .i64 0,.int .i64 0,.bool false,.bool false,.bool false,.int .i64 0,.int .i64 0,.int .i64 0,.slice none 0 0] : Value)) = z at hz0
 have hzc : z.cells.size = 11 := by rw [← hz]; rfl
 have hge := grownCap_ge w (n + 1) c 53
 have hgm := grownCap_le_maxLen w (n + 1) c 53 h63
 obtain ⟨G,hG⟩ : ∃ G,G = grownCap w (n + 1) c 53 := ⟨_,rfl⟩
 obtain ⟨ROW,hROW⟩ : ∃ ROW : Array Value,ROW = (cs.take (i * 11)).toArray ++ Builtin.zeroCells z.cells (n + 1 - i) ++ Builtin.zeroCells z.cells (G - (n + 1)) := ⟨_,rfl⟩
 have hrz : ∀ ty,(Builtin.append_ #[24,3] ty #[.slice (some ⟨b,0,none⟩) i c,.int .i64 ((n : Int) + 1 - (i : Int))]).run Try.prog w =
   .ok (.slice (some ⟨w.heap.size,0,none⟩) (n + 1) G) (w.drew.alloc (.cells ROW 53)) := fun ty => by
  have h := Lib.run_append_grow_zeros w 24 3 ty 53 i0 z .i64 .i64 ht ht3 hi0 hz0 (some ⟨b,0,none⟩) i c (cs.take (i * 11)) hold (n + 1 - i) (by omega) (by omega) (by omega) (by omega) (by rw [hzb]; omega) (by rw [hzb,hik]; exact growslice_fits hroom hbig)
  rw [hik] at h
  rw [hkk,h,hG,hROW,hG]
 rw [← hG] at hge hgm
 have htl : (cs.take (i * 11)).length = i * 11 := by rw [List.length_take,hcl]; omega
 have hdl : (cs.drop (i * 11)).length = (n - i) * 11 := by rw [List.length_drop,hcl]; omega
 have hRs : ROW.size = G * 11 := by
  rw [hROW]
  simp only [Array.size_append,List.size_toArray,htl,size_zeroCells,hzc]
  rw [← Nat.add_mul,← Nat.add_mul]
  congr 1
  omega
 have hRt : ROW.toList.take (i * 11) = cs.take (i * 11) := by
  rw [hROW]
  simp only [Array.toList_append,List.append_assoc]
  rw [List.take_append_of_le_length (by omega),List.take_of_length_le (by omega)]
 obtain ⟨W1,hW1⟩ : ∃ W1,W1 = w.drew.alloc (.cells ROW 53) := ⟨_,rfl⟩
 rw [← hW1] at hrz
 have hNb : W1.heap[w.heap.size]? = some (.cells ROW 53 (0,0)) := by rw [hW1]; exact heap_alloc_new w.drew _
 have hOld : ∀ q,q < w.heap.size → W1.heap[q]? = w.heap[q]? := fun q hq => by rw [hW1]; first | exact heap_alloc_old w.drew _ hq | exact heap_alloc_old w.drew _ q hq
 obtain ⟨C1,hC1⟩ : ∃ C1,C1 = ROW.toList.take (i * 11) ++ vs ++ ROW.toList.drop (i * 11 + vs.length) := ⟨_,rfl⟩
 have hGi : (n + 1) * 11 ≤ G * 11 := Nat.mul_le_mul_right 11 hge
 have hl1 : C1.length = G * 11 := by
  rw [hC1]
  simp only [List.length_append,List.length_take,List.length_drop,Array.length_toList,hRs,hvl]
  omega
 have hcpA : ∀ (W : World),W.heap = W1.heap → ∀ ty dc,(Builtin.copy_ #[24,24] ty #[.slice (some ⟨w.heap.size,i * 11,none⟩) (n + 1 - i) dc,.slice (some ⟨vb,0,none⟩) 1 vc]).run Try.prog W = .ok (goInt (Nat.min 1 (n + 1 - i))) (W.setRow w.heap.size C1.toArray) := fun W hW ty dc => by
  have h := run_copy_row (P := Try.prog) W 24 24 ty 53 11 w.heap.size (i * 11) (n + 1 - i) dc ⟨vb,0,none⟩ 1 vc vs ROW 53 ht hty (by rw [hvl]; simp only [Nat.min_def]; split <;> omega)
   (fun j v hj => by rw [Addr.add_lit,Nat.zero_add]; exact cell_row (w := W) (by rw [hW,hOld vb hvw]; exact hv) hvs j v hj) (by rw [hW]; exact hNb) (by rw [hvl,hRs]; omega) h1v
  rw [h,hC1]
 obtain ⟨C2,hC2⟩ : ∃ C2,C2 = C1.take ((i + 1) * 11) ++ cs.drop (i * 11) ++ C1.drop ((i + 1) * 11 + (cs.drop (i * 11)).length) := ⟨_,rfl⟩
 have hcpB : ∀ (W : World),W.heap = (W1.setRow w.heap.size C1.toArray).heap → ∀ ty dc sc,(Builtin.copy_ #[24,24] ty #[.slice (some ⟨w.heap.size,(i + 1) * 11,none⟩) (n - i) dc,.slice (some ⟨b,i * 11,none⟩) (n - i) sc]).run Try.prog W = .ok (goInt (Nat.min (n - i) (n - i))) (W.setRow w.heap.size C2.toArray) := fun W hW ty dc sc => by
  have h := run_copy_row (P := Try.prog) W 24 24 ty 53 11 w.heap.size ((i + 1) * 11) (n - i) dc ⟨b,i * 11,none⟩ (n - i) sc (cs.drop (i * 11)) C1.toArray 53 ht hty (by rw [hdl,show Nat.min (n - i) (n - i) = n - i from Nat.min_self _])
   (fun j v hj => by rw [Addr.add_lit]; exact cell_row (w := W) (by rw [hW,setRow_other W1 w.heap.size b _ (by omega),hOld b hbw]; exact hb) hcs (i * 11 + j) v (by rwa [List.getElem?_drop] at hj)) (by rw [hW]; exact setRow_heap W1 w.heap.size ROW _ 53 _ hNb) (by rw [hdl,List.size_toArray,hl1]; omega) (fun v hv => h1c v (List.mem_of_mem_drop hv))
  rw [h,hC2]
 have hl2 : C2.length = G * 11 := by
  rw [hC2]
  simp only [List.length_append,List.length_take,List.length_drop,hl1,hdl,hcl]
  omega
 have hfin : C2.take ((n + 1) * 11) = cs.take (i * 11) ++ vs ++ cs.drop (i * 11) := by
  have e1 : C1.take ((i + 1) * 11) = cs.take (i * 11) ++ vs := by
   rw [hC1,hRt]
   have : (cs.take (i * 11) ++ vs).length = (i + 1) * 11 := by rw [List.length_append,htl,hvl]; omega
   rw [← this]; exact List.take_left
  rw [hC2,e1]
  have : (cs.take (i * 11) ++ vs ++ cs.drop (i * 11)).length = (n + 1) * 11 := by simp only [List.length_append,htl,hvl,hdl]; omega
  rw [← this]; exact List.take_left
 have hout : ∀ W,Ev w W (fun _ => False) → W.heap = (W1.setRow w.heap.size C1.toArray).heap → InsOut w 53 11 (.slice (some ⟨b,0,none⟩) n c) (n + 1) (cs.take (i * 11) ++ vs ++ cs.drop (i * 11)) (.slice (some ⟨w.heap.size,0,none⟩) (n + 1) G) (W.setRow w.heap.size C2.toArray) := fun W hE hW =>
  insOut_new w 53 11 _ (n + 1) _ G C2.toArray _ ⟨hE.os,hE.tape,hE.output,by rw [setRow_size]; exact hE.size,fun q hq hn => (setRow_other W w.heap.size q _ (by omega)).trans (hE.block q hq hn)⟩
   (by rw [← hfin,List.length_take,hl2]; omega) hge hgm (by rw [List.size_toArray,hl2]) (by simpa using hfin) (setRow_heap W w.heap.size C1.toArray _ 53 _ (by rw [hW]; exact setRow_heap W1 w.heap.size ROW _ 53 _ hNb))
 have hE1 : Ev w (W1.setRow w.heap.size C1.toArray) (fun _ => False) := by
  refine ⟨?_,?_,?_,?_,fun q hq _ => ?_⟩
  ·rw [hW1]; rfl
  ·rw [hW1]; rfl
  ·rw [hW1]; rfl
  ·rw [setRow_size,hW1]; simp
  ·rw [setRow_other W1 w.heap.size q _ (by omega),hOld q hq]
 obtain ⟨IO,hIO⟩ : ∃ IO,IO = InsOut w 53 11 (.slice (some ⟨b,0,none⟩) n c) (n + 1) (cs.take (i * 11) ++ vs ++ cs.drop (i * 11)) := ⟨_,rfl⟩
 rw [← hIO] at hout ⊢
 have hn0 : (0 : Int) ≤ (n : Int) + 1 - (i : Int) := by omega
 have hw1 : IntKind.i64.wrap ((i : Int) + 1) = (i : Int) + 1 := by rw [IntKind.wrap_i64]; omega
 have hw2 : IntKind.i64.wrap ((n : Int) + 1) = (n : Int) + 1 := by rw [IntKind.wrap_i64]; omega
 have hw3 : IntKind.i64.wrap ((n : Int) + 1 - (i : Int)) = (n : Int) + 1 - (i : Int) := by rw [IntKind.wrap_i64]; omega
 have hb1 : (0 : Int) ≤ (i : Int) + 1 := by omega
 have htn : ((i : Int) + 1).toNat = i + 1 := by omega
 have htn2 : ((n : Int) + 1).toNat = n + 1 := by omega
 have hb3 : (i : Int) + 1 ≤ (n : Int) + 1 := by omega
 have hb5 : (i : Int) ≤ (n : Int) + 1 := by omega
 have hb6 : (i : Int) ≤ (c : Int) := by omega
 have hb2 : ¬ (G = i + 1) := by omega
 have hb4 : ¬ (G = i) := by omega
 have hb7 : ¬ (c = i) := by omega
 have mixed : Try.prog.follows .mixedOrders = true := by kernel_rfl
 have hcpB2 := fun ty dc sc => hcpB (W1.setRow w.heap.size C1.toArray).drew rfl ty dc sc
 clear hW1 hG hkk hIO hfin hl2 hC2 hl1 hC1 hOld hNb hRt hRs hROW hold hb hv hsz hcs hvs hcpB
 go_enter Try.func38,Try.ntmps38
 go_wp2_with (at_builtin; first
  | refine Lib.wpList_append_run _ rfl _ _ _ _ rfl _ _ rfl rfl _ _ (hrz _) ?_
  | refine wpList_copy_runI _ rfl _ _ 24 24 rfl _ _ rfl rfl (hcpA _ rfl _ _) ?_)
 go_region_law_o (refine step_copy_runI rfl _ _ 24 24 rfl _ _ (by simp [Act.eval,Act.put]) (by simp [Act.eval,Act.put]) (hcpB2 _ _ _) ?_)
 go_wp2
 go_ret
 exact ⟨_,rfl,hout _ ⟨hE1.os,hE1.tape,hE1.output,hE1.size,hE1.block⟩ rfl⟩
theorem din_walk : InsWalk Try.prog 38 53 11 88 := by
 intro w s0 n i vb vc cs vs cur2 hi hbig h63 hown hne hvb hvs hvl h1c h1v
 by_cases hin : i = n
 ·subst hin
  have h := din_end s0 i vb vc cs vs w hown hbig h63 (fun j v hj => cell_row hvb hvs j v hj) hvl h1v
  rw [List.take_of_length_le (by rw [hown.1]; exact Nat.le_refl _),List.drop_eq_nil_of_le (by rw [hown.1]; exact Nat.le_refl _),List.append_nil]
  exact h
 ·rcases hown.2 with ⟨rfl,rfl⟩ | ⟨g,cap,cur,rfl,_,hg,hnc,hm,hs,hcs⟩
  ·omega
  ·by_cases hroom : n + 1 ≤ cap
   ·exact din_shift g n cap i vb vc cs vs cur cur2 w (by omega) hroom hm (fun e => hne (by rw [e]; rfl)) hg hs hcs hown.1 hvb hvs hvl h1c h1v
   ·exact din_grow g n cap i vb vc cs vs cur cur2 w (by omega) hnc (by omega) h63 hbig hg hs hcs hown.1 hvb hvs hvl h1c h1v
end Go.Proofs
namespace Go.AL
open Go.Proofs
noncomputable def E_din : EntL := insE 38 53 11 tSDs 88
theorem E_din_ok : E_din.Ok Try.prog := insE_ok (by omega) (by omega) din_walk
noncomputable def C_add : Cfg := ⟨Try.prog,[E_val,E_ipd,E_vdi,E_clo,E_uti],pmT [],93,[E_din],[],[],[]⟩
theorem es_add : EsOk Try.prog [E_val,E_ipd,E_vdi,E_clo,E_uti] [E_din] [] := el_cons E_din_ok (es_cons E_val_ok (es_cons E_ipd_ok (es_cons E_vdi_ok (es_cons E_clo_ok (es_cons E_uti_ok (es_nil))))))
def Lt_add : Nat → LD := ldT [(0,⟨[.c 1 (.int .i64),.box 5 5 26 3 tSSd,.box 10 10 26 3 tSSd,.box 12 12 53 11 tSDs,.c 13 (.int .i64)],[],0⟩)]
noncomputable def M_add (f : Nat) (a : SSd × Int × Int × Int × Int) : Option (SSd × Int) := (runX (C_add) Lt_add (Kret Try.prog [.cell 10 26,.tmp 11] [.g tSSd,.v (.int .i64)]) f [.code (bodyOf Try.f13)] (initX [.g tSSd,.c (.int .i64),.c (.int .i64),.c (.int .i64),.c (.int .i64)] a) : Option (ResT [.g tSSd,.v (.int .i64)]))
noncomputable def L_add_0 (f : Nat) (x : Int × SSd × SSd × SDs × Int) : Option (SSd × Int) := (runX (C_add) Lt_add (Kret Try.prog [.cell 10 26,.tmp 11] [.g tSSd,.v (.int .i64)]) f (headOf Try.f13 0) ((Lt_add 0).mk' x) : Option (ResT [.g tSSd,.v (.int .i64)]))
theorem M_add_eq (f : Nat) (s : SSd) (id : Int) (weight : Int) (period : Int) (budget : Int) : M_add (f + 1) (s,id,weight,period,budget) =
  bif !valS s then some ((0,0,[]),74) else bif weight != 0 then bif rngB s.1 s.2.1 then bif !vdiS ((id,weight,period,budget,false,false,false,0,budget,s.2.1,[]),s.1,s.2.1) then some ((0,0,[]),1) else L_add_0 f (id,s,(0,0,[]),(id,weight,period,budget,false,false,false,0,budget,s.2.1,[]),0) else none else bif perB period then bif rngB s.1 s.2.1 then bif !vdiS ((id,weight,period,budget,false,false,false,IntKind.i64.wrap (s.1 + period),budget,0,[]),s.1,s.2.1) then some ((0,0,[]),1) else L_add_0 f (id,s,(0,0,[]),(id,weight,period,budget,false,false,false,IntKind.i64.wrap (s.1 + period),budget,0,[]),0) else none else bif rngB s.1 s.2.1 then bif !vdiS ((id,weight,period,budget,false,false,false,0,budget,0,[]),s.1,s.2.1) then some ((0,0,[]),1) else L_add_0 f (id,s,(0,0,[]),(id,weight,period,budget,false,false,false,0,budget,0,[]),0) else none := by kernel_rfl
theorem L_add_0_eq (f : Nat) (id : Int) (s : SSd) (x10 : SSd) (d : SDs) (k : Int) : L_add_0 (f + 1) (id,s,x10,d,k) =
  bif decide (k < (↑(List.length s.2.2) : Int)) then bif decide (0 ≤ k) && decide (k < (↑(List.length s.2.2) : Int)) then bif decide ((List.getD s.2.2 k.toNat zQ).1 < id) then L_add_0 f (id,s,x10,d,IntKind.i64.wrap (k + 1)) else bif decide (k < (↑(List.length s.2.2) : Int)) then bif decide (0 ≤ k) && decide (k < (↑(List.length s.2.2) : Int)) then bif (List.getD s.2.2 k.toNat zQ).1 == id then some ((0,0,[]),56) else bif okD s then bif insP 88 s.2.2 [d] k then bif utPre (insF s.2.2 [d] k) then bif decide (utS (insF s.2.2 [d] k) > 1024) then some ((0,0,[]),15) else some ((s.1,s.2.1,insF s.2.2 [d] k),0) else none else none else none else none else bif okD s then bif insP 88 s.2.2 [d] k then bif utPre (insF s.2.2 [d] k) then bif decide (utS (insF s.2.2 [d] k) > 1024) then some ((0,0,[]),15) else some ((s.1,s.2.1,insF s.2.2 [d] k),0) else none else none else none else none else bif decide (k < (↑(List.length s.2.2) : Int)) then bif decide (0 ≤ k) && decide (k < (↑(List.length s.2.2) : Int)) then bif (List.getD s.2.2 k.toNat zQ).1 == id then some ((0,0,[]),56) else bif okD s then bif insP 88 s.2.2 [d] k then bif utPre (insF s.2.2 [d] k) then bif decide (utS (insF s.2.2 [d] k) > 1024) then some ((0,0,[]),15) else some ((s.1,s.2.1,insF s.2.2 [d] k),0) else none else none else none else none else bif okD s then bif insP 88 s.2.2 [d] k then bif utPre (insF s.2.2 [d] k) then bif decide (utS (insF s.2.2 [d] k) > 1024) then some ((0,0,[]),15) else some ((s.1,s.2.1,insF s.2.2 [d] k),0) else none else none else none := by kernel_rfl
noncomputable def F_add_0 : List (Int × Int × Int × Int × Bool × Bool × Bool × Int × Int × Int × (List (Int))) → (Int × SSd × SSd × SDs × Nat) → SSd × Int
 | [],(id,s,x10,d,k) => bif decide ((↑k : Int) < (↑(List.length s.2.2) : Int)) then bif (List.getD s.2.2 (↑k : Int).toNat zQ).1 == id then ((0,0,[]),56) else bif decide (utS (insF s.2.2 [d] (↑k : Int)) > 1024) then ((0,0,[]),15) else ((s.1,s.2.1,insF s.2.2 [d] (↑k : Int)),0) else bif decide (utS (insF s.2.2 [d] (↑k : Int)) > 1024) then ((0,0,[]),15) else ((s.1,s.2.1,insF s.2.2 [d] (↑k : Int)),0)
 | uu :: rest,(id,s,x10,d,k) => bif decide (uu.1 < id) then F_add_0 rest (id,s,x10,d,k + 1) else bif uu.1 == id then ((0,0,[]),56) else bif decide (utS (insF s.2.2 [d] (↑k : Int)) > 1024) then ((0,0,[]),15) else ((s.1,s.2.1,insF s.2.2 [d] (↑k : Int)),0)
noncomputable def P_add_0 : List (Int × Int × Int × Int × Bool × Bool × Bool × Int × Int × Int × (List (Int))) → (Int × SSd × SSd × SDs × Nat) → Bool
 | [],(id,s,x10,d,k) => bif decide ((↑k : Int) < (↑(List.length s.2.2) : Int)) then decide ((↑k : Int) < (↑(List.length s.2.2) : Int)) && bif (List.getD s.2.2 (↑k : Int).toNat zQ).1 == id then true else okD s && (insP 88 s.2.2 [d] (↑k : Int) && utPre (insF s.2.2 [d] (↑k : Int))) else okD s && (insP 88 s.2.2 [d] (↑k : Int) && utPre (insF s.2.2 [d] (↑k : Int)))
 | uu :: rest,(id,s,x10,d,k) => bif decide (uu.1 < id) then P_add_0 rest (id,s,x10,d,k + 1) else bif uu.1 == id then true else okD s && (insP 88 s.2.2 [d] (↑k : Int) && utPre (insF s.2.2 [d] (↑k : Int)))
theorem A_add_0 : ∀ (rest : List (Int × Int × Int × Int × Bool × Bool × Bool × Int × Int × Int × (List (Int)))) (id : Int) (s : SSd) (x10 : SSd) (d : SDs) (k : Nat) (hd : s.snd.snd.drop k = rest) (hl : s.snd.snd.length ≤ 1099511627776),Rns (fun f => L_add_0 f (id,s,x10,d,((k : Nat) : Int))) (P_add_0 rest (id,s,x10,d,k)) (F_add_0 rest (id,s,x10,d,k))
 | [],id,s,x10,d,k,hd,hl => ev_step (T := fun f => bif decide ((↑k : Int) < (↑(List.length s.2.2) : Int)) then bif decide ((↑k : Int) < (↑(List.length s.2.2) : Int)) then bif (List.getD s.2.2 (↑k : Int).toNat zQ).1 == id then some ((0,0,[]),56) else bif okD s then bif insP 88 s.2.2 [d] (↑k : Int) then bif utPre (insF s.2.2 [d] (↑k : Int)) then bif decide (utS (insF s.2.2 [d] (↑k : Int)) > 1024) then some ((0,0,[]),15) else some ((s.1,s.2.1,insF s.2.2 [d] (↑k : Int)),0) else none else none else none else none else bif okD s then bif insP 88 s.2.2 [d] (↑k : Int) then bif utPre (insF s.2.2 [d] (↑k : Int)) then bif decide (utS (insF s.2.2 [d] (↑k : Int)) > 1024) then some ((0,0,[]),15) else some ((s.1,s.2.1,insF s.2.2 [d] (↑k : Int)),0) else none else none else none) (fun f => (L_add_0_eq f _ _ _ _ _).trans (by simp only [ge_dec (drop_ge hd),ge0,Bool.and_self,Bool.true_and,cond_true,cond_false,List.length_set] <;> rfl)) (ev_bif (ev_chk (ev_bif ev_some (ev_chk (ev_chk (ev_chk1 (ev_bift ev_some ev_some)))))) (ev_chk (ev_chk (ev_chk1 (ev_bift ev_some ev_some)))))
 | uu :: rest,id,s,x10,d,k,hd,hl => ev_step (T := fun f => bif decide (uu.1 < id) then L_add_0 f (id,s,x10,d,(↑(k + 1) : Int)) else bif uu.1 == id then some ((0,0,[]),56) else bif okD s then bif insP 88 s.2.2 [d] (↑k : Int) then bif utPre (insF s.2.2 [d] (↑k : Int)) then bif decide (utS (insF s.2.2 [d] (↑k : Int)) > 1024) then some ((0,0,[]),15) else some ((s.1,s.2.1,insF s.2.2 [d] (↑k : Int)),0) else none else none else none) (fun f => (L_add_0_eq f _ _ _ _ _).trans (by simp only [lt_dec (drop_lt hd),drop_get hd,wrap_succ (drop_lt hd) hl,getD_set (drop_lt hd),ge0,Bool.and_self,Bool.true_and,cond_true,cond_false,List.length_set] <;> rfl)) (ev_bif (A_add_0 rest _ _ _ _ _ (by first | exact drop_succ hd | exact drop_set hd | exact drop_setS (drop_set hd)) (by first | exact hl | simpa using hl)) (ev_bif ev_some (ev_chk (ev_chk (ev_chk1 (ev_bift ev_some ev_some))))))
noncomputable def F_add : (SSd × Int × Int × Int × Int) → SSd × Int
 | (s,id,weight,period,budget) => bif !valS s then ((0,0,[]),74) else bif weight != 0 then bif !vdiS ((id,weight,period,budget,false,false,false,0,budget,s.2.1,[]),s.1,s.2.1) then ((0,0,[]),1) else F_add_0 s.2.2 (id,s,(0,0,[]),(id,weight,period,budget,false,false,false,0,budget,s.2.1,[]),0) else bif perB period then bif !vdiS ((id,weight,period,budget,false,false,false,IntKind.i64.wrap (s.1 + period),budget,0,[]),s.1,s.2.1) then ((0,0,[]),1) else F_add_0 s.2.2 (id,s,(0,0,[]),(id,weight,period,budget,false,false,false,IntKind.i64.wrap (s.1 + period),budget,0,[]),0) else bif !vdiS ((id,weight,period,budget,false,false,false,0,budget,0,[]),s.1,s.2.1) then ((0,0,[]),1) else F_add_0 s.2.2 (id,s,(0,0,[]),(id,weight,period,budget,false,false,false,0,budget,0,[]),0)
noncomputable def P_add : (SSd × Int × Int × Int × Int) → Bool
 | (s,id,weight,period,budget) => bif !valS s then true else bif weight != 0 then rngB s.1 s.2.1 && bif !vdiS ((id,weight,period,budget,false,false,false,0,budget,s.2.1,[]),s.1,s.2.1) then true else decide (s.2.2.length ≤ 1099511627776) && P_add_0 s.2.2 (id,s,(0,0,[]),(id,weight,period,budget,false,false,false,0,budget,s.2.1,[]),0) else bif perB period then rngB s.1 s.2.1 && bif !vdiS ((id,weight,period,budget,false,false,false,IntKind.i64.wrap (s.1 + period),budget,0,[]),s.1,s.2.1) then true else decide (s.2.2.length ≤ 1099511627776) && P_add_0 s.2.2 (id,s,(0,0,[]),(id,weight,period,budget,false,false,false,IntKind.i64.wrap (s.1 + period),budget,0,[]),0) else rngB s.1 s.2.1 && bif !vdiS ((id,weight,period,budget,false,false,false,0,budget,0,[]),s.1,s.2.1) then true else decide (s.2.2.length ≤ 1099511627776) && P_add_0 s.2.2 (id,s,(0,0,[]),(id,weight,period,budget,false,false,false,0,budget,0,[]),0)
theorem add_auto : ∀ a : SSd × Int × Int × Int × Int,Rns (fun f => M_add f a) (P_add a) (F_add a)
 | (s,id,weight,period,budget) => ev_step (fun f => M_add_eq f _ _ _ _ _) (ev_bif ev_some (ev_bif (ev_chk (ev_bif ev_some (ev_and fun hh => A_add_0 _ _ _ _ _ _ rfl (of_decide_eq_true hh)))) (ev_bif (ev_chk (ev_bif ev_some (ev_and fun hh => A_add_0 _ _ _ _ _ _ rfl (of_decide_eq_true hh)))) (ev_chk (ev_bif ev_some (ev_and fun hh => A_add_0 _ _ _ _ _ _ rfl (of_decide_eq_true hh)))))))
noncomputable def C_rad : Cfg := ⟨Try.prog,[E_rva,E_prm,E_rat,E_cpo,E_lod],pmT [(15,([(0,[]),(1,[]),(2,[]),(3,[]),(4,[]),(5,[]),(6,[]),(7,[]),(8,[]),(9,[]),(10,[]),(11,[]),(12,[]),(13,[]),(14,[]),(15,[]),(16,[]),(17,[])],[(71,88)])),(18,([(0,[]),(1,[]),(2,[]),(3,[]),(4,[]),(5,[]),(6,[]),(7,[]),(8,[]),(9,[]),(10,[])],[(96,105)]))],117,[],[],[],[]⟩
theorem es_rad : EsOk Try.prog [E_rva,E_prm,E_rat,E_cpo,E_lod] [] [] := es_cons E_rva_ok (es_cons E_prm_ok (es_cons E_rat_ok (es_cons E_cpo_ok (es_cons E_lod_ok (es_nil)))))
def Lt_rad : Nat → LD := ldT [(1,⟨[.box 10 10 26 3 tSSd,.boxo 13 13 26 3 tSSd 2 999 53 11,.c 14 (.int .i64)],[],0⟩)]
noncomputable def M_rad (f : Nat) (a : SSd × Int × Int × Int × Int) : Option (SSd × Int) := (runX (C_rad) Lt_rad (Kret Try.prog [.cell 10 26,.tmp 11] [.g tSSd,.v (.int .i64)]) f [.code (bodyOf Try.f18)] (initX [.g tSSd,.c (.int .i64),.c (.int .i64),.c (.int .i64),.c (.int .i64)] a) : Option (ResT [.g tSSd,.v (.int .i64)]))
noncomputable def L_rad_1 (f : Nat) (x : SSd × SSd × Int) : Option (SSd × Int) := (runX (C_rad) Lt_rad (Kret Try.prog [.cell 10 26,.tmp 11] [.g tSSd,.v (.int .i64)]) f (headOf Try.f18 1) ((Lt_rad 1).mk' x) : Option (ResT [.g tSSd,.v (.int .i64)]))
theorem M_rad_eq (f : Nat) (s : SSd) (id : Int) (weight : Int) (period : Int) (budget : Int) : M_rad (f + 1) (s,id,weight,period,budget) =
  bif !valS s then some ((0,0,[]),74) else bif decide (id < 0) then some ((0,0,[]),1) else bif decide (id ≥ 32) then some ((0,0,[]),1) else bif !prmB (weight,period,budget) then some ((0,0,[]),1) else bif okD s then bif decide (atS (s,id) ≥ 0) then some ((0,0,[]),56) else bif weight != 0 then bif okD s then bif decide ((List.length s.2.2 + 1) * 88 ≤ 140737488355328) then L_rad_1 f ((0,0,[]),(s.1,s.2.1,s.2.2 ++ [(id,weight,period,budget,false,false,false,0,0,s.2.1,[])]),IntKind.i64.wrap ((↑(s.2.2 ++ [(id,weight,period,budget,false,false,false,0,0,s.2.1,[])]).length : Int) - 1)) else none else none else bif okD s then bif decide ((List.length s.2.2 + 1) * 88 ≤ 140737488355328) then L_rad_1 f ((0,0,[]),(s.1,s.2.1,s.2.2 ++ [(id,weight,period,budget,false,false,false,IntKind.i64.wrap (s.1 + period),budget,0,[])]),IntKind.i64.wrap ((↑(s.2.2 ++ [(id,weight,period,budget,false,false,false,IntKind.i64.wrap (s.1 + period),budget,0,[])]).length : Int) - 1)) else none else none else none := by kernel_rfl
theorem L_rad_1_eq (f : Nat) (x10 : SSd) (x : SSd) (k : Int) : L_rad_1 (f + 1) (x10,x,k) =
  bif decide (k > 0) then bif decide (0 ≤ k) && decide (k < (↑(List.length x.2.2) : Int)) then bif decide (0 ≤ IntKind.i64.wrap (k - 1)) && decide (IntKind.i64.wrap (k - 1) < (↑(List.length x.2.2) : Int)) then bif decide ((List.getD x.2.2 k.toNat zQ).1 < (List.getD x.2.2 (IntKind.i64.wrap (k - 1)).toNat zQ).1) then bif decide (0 ≤ k) && decide (k < (↑(List.length x.2.2) : Int)) then bif decide (0 ≤ IntKind.i64.wrap (k - 1)) && decide (IntKind.i64.wrap (k - 1) < (↑(List.length x.2.2) : Int)) then bif decide (0 ≤ k) && decide (k < (↑(List.length x.2.2) : Int)) then bif decide (0 ≤ IntKind.i64.wrap (k - 1)) && decide (IntKind.i64.wrap (k - 1) < (↑(List.set x.2.2 k.toNat (List.getD x.2.2 (IntKind.i64.wrap (k - 1)).toNat zQ)).length : Int)) then L_rad_1 f (x10,(x.1,x.2.1,(List.set x.2.2 k.toNat (List.getD x.2.2 (IntKind.i64.wrap (k - 1)).toNat zQ)).set (IntKind.i64.wrap (k - 1)).toNat (List.getD x.2.2 k.toNat zQ)),IntKind.i64.wrap (k - 1)) else none else none else none else none else bif utPre x.2.2 then bif decide (utS x.2.2 > 1024) then some ((0,0,[]),15) else some (x,0) else none else none else none else bif utPre x.2.2 then bif decide (utS x.2.2 > 1024) then some ((0,0,[]),15) else some (x,0) else none := by kernel_rfl
end Go.AL
