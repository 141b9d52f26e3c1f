/-
  Layer 30 (sched): the reference's Block, Wake, Enable. By an AI agent.
-/
import Derived.Test.YtmdmmikpmhopkaaK14
import Derived.Test.YtmdmmikpmhopkaaKw
import Derived.Test.YtmdmmikpmhopkaaK18
import Derived.Test.YtmdmmikpmhopkaaK21
set_option linter.unusedVariables false
set_option linter.unusedSimpArgs false
namespace Go.AL
open Go.Proofs
set_option maxHeartbeats 4000000
theorem atL_at {id : Int} : ∀ {A : List SDs} {d : SDs} {B : List SDs} {k : Nat},d.1 = id → (∀ e ∈ A,e.1 ≠ id) → atL id (A ++ d :: B) k = ((k + A.length : Nat) : Int)
 | [],d,B,k,h,_ => by
  show (bif d.1 == id then _ else _) = _
  rw [beqD,decide_eq_true h]; rfl
 | a :: A,d,B,k,h,hA => by
  show (bif a.1 == id then _ else atL id (A ++ d :: B) (k + 1)) = _
  rw [beqD,decide_eq_false (hA a (List.mem_cons_self ..)),cond_false,atL_at h (fun e he => hA e (List.mem_cons_of_mem _ he)),List.length_cons]
  congr 1; omega
theorem atL_no {id : Int} : ∀ {l : List SDs} {k : Nat},(∀ e ∈ l,e.1 ≠ id) → atL id l k = -1
 | [],k,_ => rfl
 | a :: A,k,hA => by
  show (bif a.1 == id then _ else _) = _
  rw [beqD,decide_eq_false (hA a (List.mem_cons_self ..)),cond_false,atL_no (fun e he => hA e (List.mem_cons_of_mem _ he))]
theorem opn_no {id : Int} : ∀ {l : List SDs} {k : Nat},(∀ e ∈ l,e.1 ≠ id) → opnI id l k = -1
 | [],k,_ => rfl
 | a :: A,k,hA => by
  rw [opnI,decide_eq_false (hA a (List.mem_cons_self ..)),Bool.false_and,cond_false,opn_no (fun e he => hA e (List.mem_cons_of_mem _ he))]
theorem opn_at {id : Int} : ∀ {A : List SDs} {d : SDs} {B : List SDs} {k : Nat},d.1 = id → (∀ e ∈ A,e.1 ≠ id) → (∀ e ∈ B,e.1 ≠ id) → opnI id (A ++ d :: B) k = bif dRem d then -1 else ((k + A.length : Nat) : Int)
 | [],d,B,k,h,_,hB => by
  show opnI id (d :: B) k = _
  rw [opnI,decide_eq_true h,opn_no hB]
  cases dRem d <;> rfl
 | a :: A,d,B,k,h,hA,hB => by
  show opnI id (a :: (A ++ d :: B)) k = _
  rw [opnI,decide_eq_false (hA a (List.mem_cons_self ..)),Bool.false_and,cond_false,opn_at h (fun e he => hA e (List.mem_cons_of_mem _ he)) hB,List.length_cons]
  congr 2; omega
theorem at_opn {s : SSd} (hv : valS s = true) (id : Int) : (decide (opnI id s.2.2 0 < 0) = true ∧ (atS (s,id) = -1 ∨ ∃ A d B,s.2.2 = A ++ d :: B ∧ atS (s,id) = ((A.length : Nat) : Int) ∧ dRem d = true)) ∨
  ∃ A d B,s.2.2 = A ++ d :: B ∧ atS (s,id) = ((A.length : Nat) : Int) ∧ opnI id s.2.2 0 = ((A.length : Nat) : Int) ∧ d.1 = id ∧ dRem d = false ∧ vdiS (d,s.1,s.2.1) = true := by
 have V := (valS_iff s).1 hv
 by_cases hex : ∃ d ∈ s.2.2,d.1 = id
 ·obtain ⟨d,hd,he⟩ := hex
  obtain ⟨A,B,e1⟩ := List.append_of_mem hd
  have hs := V.srt
  rw [e1,List.pairwise_append] at hs
  obtain ⟨h1,h2,h3⟩ := hs
  rw [List.pairwise_cons] at h2
  have hA : ∀ e ∈ A,e.1 ≠ id := fun e hm => by have := h3 e hm d (List.mem_cons_self ..); omega
  have hB : ∀ e ∈ B,e.1 ≠ id := fun e hm => by have := h2.1 e hm; omega
  have g1 : atS (s,id) = ((A.length : Nat) : Int) := by
   show atL id s.2.2 0 = _
   rw [e1,atL_at he hA,Nat.zero_add]
  have g2 : opnI id s.2.2 0 = bif dRem d then -1 else ((A.length : Nat) : Int) := by rw [e1,opn_at he hA hB,Nat.zero_add]
  cases hr : dRem d with
  | true => rw [hr] at g2; exact .inl ⟨decide_eq_true (by rw [g2]; show (-1 : Int) < 0; omega),.inr ⟨A,d,B,e1,g1,hr⟩⟩
  | false => rw [hr] at g2; exact .inr ⟨A,d,B,e1,g1,g2,he,hr,V.all d hd⟩
 ·have hno : ∀ e ∈ s.2.2,e.1 ≠ id := fun e hm he => hex ⟨e,hm,he⟩
  exact .inl ⟨decide_eq_true (by rw [opn_no hno]; omega),.inl (atL_no hno)⟩
theorem rbl_both : ∀ a : SSd × Int,okD a.1 = true → P_rbl a = true ∧ F_rbl a = chgS a.1 a.2 blkF := fun (s,id) h => by
 have h : okD s = true := h
 show P_rbl (s,id) = true ∧ F_rbl (s,id) = chgS s id blkF
 cases hv : valS s with
 | false => simp only [P_rbl,F_rbl,chgS,hv,Bool.not_false,cond_true]; exact ⟨trivial,rfl⟩
 | true =>
  rcases at_opn hv id with ⟨ho,hn | ⟨A,d,B,e1,e2,e3⟩⟩ | ⟨A,d,B,e1,e2,e3,e4,e5,vd⟩
  ·simp only [P_rbl,F_rbl,chgS,hv,ho,hn,h,Bool.not_true,cond_true,cond_false,Bool.and_self,decide_eq_true (show (-1 : Int) < 0 by omega)]; exact ⟨trivial,rfl⟩
  ·have hg : ∀ z,s.2.2.getD A.length z = d := fun z => by rw [e1]; simp
   have hl : decide (((A.length : Nat) : Int) < ((s.2.2.length : Nat) : Int)) = true := decide_eq_true (by rw [e1]; simp; omega)
   have e3 : d.2.2.2.2.2.2.1 = true := e3
   simp only [P_rbl,F_rbl,chgS,hv,ho,e2,hg,hl,e3,h,Int.toNat_natCast,Bool.not_true,cond_true,cond_false,Bool.and_self,decide_eq_false (show ¬ ((A.length : Nat) : Int) < 0 by omega),decide_eq_true (show (0 : Int) ≤ ((A.length : Nat) : Int) by omega)]; exact ⟨trivial,rfl⟩
  ·have hg : ∀ z,s.2.2.getD A.length z = d := fun z => by rw [e1]; simp
   have hs : ∀ d',s.2.2.set A.length d' = A ++ [d'] ++ B := fun d' => by rw [e1]; simp
   have hl : decide (((A.length : Nat) : Int) < ((s.2.2.length : Nat) : Int)) = true := decide_eq_true (by rw [e1]; simp; omega)
   have ht : s.2.2.take A.length = A := by rw [e1,List.take_left]
   have hd : s.2.2.drop (A.length + 1) = B := by rw [e1,show A.length + 1 = (A ++ [d]).length by simp,show A ++ d :: B = (A ++ [d]) ++ B by simp,List.drop_left]
   have e5 : d.2.2.2.2.2.2.1 = false := e5
   simp only [P_rbl,F_rbl,chgS,hv,e2,e3,hg,hs,hl,e5,ht,hd,h,Int.toNat_natCast,Bool.not_true,cond_true,cond_false,Bool.and_self,decide_eq_false (show ¬ ((A.length : Nat) : Int) < 0 by omega),decide_eq_true (show (0 : Int) ≤ ((A.length : Nat) : Int) by omega)]
   exact ⟨trivial,rfl⟩
theorem rea_both : ∀ a : SSd × Int,okD a.1 = true → P_rea a = true ∧ F_rea a = chgS a.1 a.2 enaF := fun (s,id) h => by
 have h : okD s = true := h
 show P_rea (s,id) = true ∧ F_rea (s,id) = chgS s id enaF
 cases hv : valS s with
 | false => simp only [P_rea,F_rea,chgS,hv,Bool.not_false,cond_true]; exact ⟨trivial,rfl⟩
 | true =>
  rcases at_opn hv id with ⟨ho,hn | ⟨A,d,B,e1,e2,e3⟩⟩ | ⟨A,d,B,e1,e2,e3,e4,e5,vd⟩
  ·simp only [P_rea,F_rea,chgS,hv,ho,hn,h,Bool.not_true,cond_true,cond_false,Bool.and_self,decide_eq_true (show (-1 : Int) < 0 by omega)]; exact ⟨trivial,rfl⟩
  ·have hg : ∀ z,s.2.2.getD A.length z = d := fun z => by rw [e1]; simp
   have hl : decide (((A.length : Nat) : Int) < ((s.2.2.length : Nat) : Int)) = true := decide_eq_true (by rw [e1]; simp; omega)
   have e3 : d.2.2.2.2.2.2.1 = true := e3
   simp only [P_rea,F_rea,chgS,hv,ho,e2,hg,hl,e3,h,Int.toNat_natCast,Bool.not_true,cond_true,cond_false,Bool.and_self,decide_eq_false (show ¬ ((A.length : Nat) : Int) < 0 by omega),decide_eq_true (show (0 : Int) ≤ ((A.length : Nat) : Int) by omega)]; exact ⟨trivial,rfl⟩
  ·have hg : ∀ z,s.2.2.getD A.length z = d := fun z => by rw [e1]; simp
   have hs : ∀ d',s.2.2.set A.length d' = A ++ [d'] ++ B := fun d' => by rw [e1]; simp
   have hl : decide (((A.length : Nat) : Int) < ((s.2.2.length : Nat) : Int)) = true := decide_eq_true (by rw [e1]; simp; omega)
   have ht : s.2.2.take A.length = A := by rw [e1,List.take_left]
   have hd : s.2.2.drop (A.length + 1) = B := by rw [e1,show A.length + 1 = (A ++ [d]).length by simp,show A ++ d :: B = (A ++ [d]) ++ B by simp,List.drop_left]
   have e5 : d.2.2.2.2.2.2.1 = false := e5
   simp only [P_rea,F_rea,chgS,hv,e2,e3,hg,hs,hl,e5,ht,hd,h,Int.toNat_natCast,Bool.not_true,cond_true,cond_false,Bool.and_self,decide_eq_false (show ¬ ((A.length : Nat) : Int) < 0 by omega),decide_eq_true (show (0 : Int) ≤ ((A.length : Nat) : Int) by omega)]
   exact ⟨trivial,rfl⟩
theorem rwa_both : ∀ a : SSd × Int,okD a.1 = true → P_rwa a = true ∧ F_rwa a = chgS a.1 a.2 (wakF a.1) := fun (s,id) h => by
 have h : okD s = true := h
 show P_rwa (s,id) = true ∧ F_rwa (s,id) = chgS s id (wakF s)
 cases hv : valS s with
 | false => simp only [P_rwa,F_rwa,chgS,hv,Bool.not_false,cond_true]; exact ⟨trivial,rfl⟩
 | true =>
  rcases at_opn hv id with ⟨ho,hn | ⟨A,d,B,e1,e2,e3⟩⟩ | ⟨A,d,B,e1,e2,e3,e4,e5,vd⟩
  ·simp only [P_rwa,F_rwa,chgS,hv,ho,hn,h,Bool.not_true,cond_true,cond_false,Bool.and_self,decide_eq_true (show (-1 : Int) < 0 by omega)]; exact ⟨trivial,rfl⟩
  ·have hg : ∀ z,s.2.2.getD A.length z = d := fun z => by rw [e1]; simp
   have hl : decide (((A.length : Nat) : Int) < ((s.2.2.length : Nat) : Int)) = true := decide_eq_true (by rw [e1]; simp; omega)
   have e3 : d.2.2.2.2.2.2.1 = true := e3
   simp only [P_rwa,F_rwa,chgS,hv,ho,e2,hg,hl,e3,h,Int.toNat_natCast,Bool.not_true,cond_true,cond_false,Bool.and_self,decide_eq_false (show ¬ ((A.length : Nat) : Int) < 0 by omega),decide_eq_true (show (0 : Int) ≤ ((A.length : Nat) : Int) by omega)]; exact ⟨trivial,rfl⟩
  ·have hr := ((valS_iff s).1 hv).rng
   simp only [rngB,Bool.and_eq_true,decide_eq_true_eq] at hr
   have hg : ∀ z,s.2.2.getD A.length z = d := fun z => by rw [e1]; simp
   have hs : ∀ d',s.2.2.set A.length d' = A ++ [d'] ++ B := fun d' => by rw [e1]; simp
   have hl : decide (((A.length : Nat) : Int) < ((s.2.2.length : Nat) : Int)) = true := decide_eq_true (by rw [e1]; simp; omega)
   have ht : s.2.2.take A.length = A := by rw [e1,List.take_left]
   have hd : s.2.2.drop (A.length + 1) = B := by rw [e1,show A.length + 1 = (A ++ [d]).length by simp,show A ++ d :: B = (A ++ [d]) ++ B by simp,List.drop_left]
   have hss : s = (s.1,s.2.1,A ++ [d] ++ B) := by
    have : A ++ [d] ++ B = s.2.2 := by rw [e1]; simp
    rw [this]
   have e5 : d.2.2.2.2.2.2.1 = false := e5
   simp only [P_rwa,F_rwa,chgS,hv,e2,e3,hg,hs,hl,e5,ht,hd,h,Int.toNat_natCast,Bool.not_true,cond_true,cond_false,Bool.and_self,decide_eq_false (show ¬ ((A.length : Nat) : Int) < 0 by omega),decide_eq_true (show (0 : Int) ≤ ((A.length : Nat) : Int) by omega),gtD_mid,st_mid,beqD,bneD,Bool.true_and,wakF,decide_true]
   clear hg hs ht hd e1 hl
   obtain ⟨d1,d2,d3,d4,d5,d6,d7,d8,d9,d10,d11⟩ := d
   cases d5 with
   | false => exact ⟨rfl,by rw [Bool.not_false,cond_true]; exact congrArg (fun t => (t,(0 : Int))) hss⟩
   | true =>
    cases hw : decide (d2 = 0) with
    | true =>
     simp only [vdiS,corB,rtB,dId,dW,dPer,dBud,dBlk,dDis,dRem,dDl,dLft,dPas,ups,hw,cond_true,Bool.and_eq_true,decide_eq_true_eq] at vd
     obtain ⟨q1,q2,q3,q4,q5,q6,q7,q8,q9,q10⟩ := vd
     have hp := perB_rng q5
     have e9 := wak_left (b := d4) (l := d9) (n := s.1) (p := d3) (x := d8) (by omega) (by omega) hp.1 hp.2 (by omega) (by omega) hr.1 hr.2.1
     simp only [decide_true,wakD,dBlk,dW,dLft,dBud,dDl,dPer,hw,cond_true,cond_false,Bool.not_true,upT,upH,upS,gtD_mid,st_mid,e9]
     have hp0 : (!decide (d3 = 0)) = true := by simp; omega
     exact ⟨by show (bif !decide (d2 = 0) then true else !decide (d3 = 0)) = true; rw [hw]; exact hp0,by show (bif !decide (d2 = 0) then ((s.1,s.2.1,A ++ [(d1,d2,d3,d4,false,d6,d7,d8,d9,(if s.2.1 > d10 then s.2.1 else d10),d11)] ++ B),(0 : Int)) else ((s.1,s.2.1,A ++ [(d1,d2,d3,d4,false,d6,d7,d8,(if IntKind.i64.wrap ((IntKind.i64.wrap (d4 * IntKind.i64.wrap (d8 - s.1))).tdiv d3) < d9 then IntKind.i64.wrap ((IntKind.i64.wrap (d4 * IntKind.i64.wrap (d8 - s.1))).tdiv d3) else d9),d10,d11)] ++ B),0)) = _; rw [hw,e9]; rfl⟩
    | false =>
     simp only [decide_true,wakD,dBlk,dW,dPas,hw,cond_true,cond_false,Bool.not_true,Bool.not_false,upT,upH,upS,gtD_mid,st_mid,wak_pass]
     exact ⟨by show (bif !decide (d2 = 0) then true else !decide (d3 = 0)) = true; rw [hw]; rfl,by show (bif !decide (d2 = 0) then ((s.1,s.2.1,A ++ [(d1,d2,d3,d4,false,d6,d7,d8,d9,(if s.2.1 > d10 then s.2.1 else d10),d11)] ++ B),(0 : Int)) else ((s.1,s.2.1,A ++ [(d1,d2,d3,d4,false,d6,d7,d8,(if IntKind.i64.wrap ((IntKind.i64.wrap (d4 * IntKind.i64.wrap (d8 - s.1))).tdiv d3) < d9 then IntKind.i64.wrap ((IntKind.i64.wrap (d4 * IntKind.i64.wrap (d8 - s.1))).tdiv d3) else d9),d10,d11)] ++ B),0)) = _; rw [hw,wak_pass]; rfl⟩
theorem rbl_P : ∀ a : SSd × Int,(fun a : SSd × Int => okD a.1) a = true → P_rbl a = true := fun a h => (rbl_both a h).1
theorem rbl_F : ∀ a : SSd × Int,(fun a : SSd × Int => okD a.1) a = true → F_rbl a = (fun a : SSd × Int => chgS a.1 a.2 blkF) a := fun a h => (rbl_both a h).2
theorem rbl_run : ∀ a,(fun a => okD a.1 : SSd × Int → Bool) a = true → ∃ f,M_rbl f a = some ((fun a => chgS a.1 a.2 blkF : SSd × Int → SSd × Int) a) := fun a h => by have h1 := rbl_auto a (rbl_P a h); rw [rbl_F a h] at h1; exact h1
noncomputable def E_rbl : Ent := ⟨24,[.g tSSd,.c (.int .i64)],[.g tSSd,.v (.int .i64)],fun a => (fun a => okD a.1 : SSd × Int → Bool) a,fun a => (fun a => chgS a.1 a.2 blkF : SSd × Int → SSd × Int) a⟩
theorem E_rbl_ok : E_rbl.Ok Try.prog := fun a hp vs hv => (rbl_run a hp).elim fun f h => fnX_ok (C := C_rbl) (Lt := Lt_rbl) (fn := Try.f24) (rs := [.cell 4 26,.tmp 5]) [.g tSSd,.c (.int .i64)] [.g tSSd,.v (.int .i64)] mixed es_rbl Try.func24 rfl rfl rfl (by kernel_rfl) (by kernel_rfl) f h vs hv
theorem rea_P : ∀ a : SSd × Int,(fun a : SSd × Int => okD a.1) a = true → P_rea a = true := fun a h => (rea_both a h).1
theorem rea_F : ∀ a : SSd × Int,(fun a : SSd × Int => okD a.1) a = true → F_rea a = (fun a : SSd × Int => chgS a.1 a.2 enaF) a := fun a h => (rea_both a h).2
theorem rea_run : ∀ a,(fun a => okD a.1 : SSd × Int → Bool) a = true → ∃ f,M_rea f a = some ((fun a => chgS a.1 a.2 enaF : SSd × Int → SSd × Int) a) := fun a h => by have h1 := rea_auto a (rea_P a h); rw [rea_F a h] at h1; exact h1
noncomputable def E_rea : Ent := ⟨30,[.g tSSd,.c (.int .i64)],[.g tSSd,.v (.int .i64)],fun a => (fun a => okD a.1 : SSd × Int → Bool) a,fun a => (fun a => chgS a.1 a.2 enaF : SSd × Int → SSd × Int) a⟩
theorem E_rea_ok : E_rea.Ok Try.prog := fun a hp vs hv => (rea_run a hp).elim fun f h => fnX_ok (C := C_rea) (Lt := Lt_rea) (fn := Try.f30) (rs := [.cell 4 26,.tmp 5]) [.g tSSd,.c (.int .i64)] [.g tSSd,.v (.int .i64)] mixed es_rea Try.func30 rfl rfl rfl (by kernel_rfl) (by kernel_rfl) f h vs hv
theorem rwa_P : ∀ a : SSd × Int,(fun a : SSd × Int => okD a.1) a = true → P_rwa a = true := fun a h => (rwa_both a h).1
theorem rwa_F : ∀ a : SSd × Int,(fun a : SSd × Int => okD a.1) a = true → F_rwa a = (fun a : SSd × Int => chgS a.1 a.2 (wakF a.1)) a := fun a h => (rwa_both a h).2
theorem rwa_run : ∀ a,(fun a => okD a.1 : SSd × Int → Bool) a = true → ∃ f,M_rwa f a = some ((fun a => chgS a.1 a.2 (wakF a.1) : SSd × Int → SSd × Int) a) := fun a h => by have h1 := rwa_auto a (rwa_P a h); rw [rwa_F a h] at h1; exact h1
noncomputable def E_rwa : Ent := ⟨26,[.g tSSd,.c (.int .i64)],[.g tSSd,.v (.int .i64)],fun a => (fun a => okD a.1 : SSd × Int → Bool) a,fun a => (fun a => chgS a.1 a.2 (wakF a.1) : SSd × Int → SSd × Int) a⟩
theorem E_rwa_ok : E_rwa.Ok Try.prog := fun a hp vs hv => (rwa_run a hp).elim fun f h => fnX_ok (C := C_rwa) (Lt := Lt_rwa) (fn := Try.f26) (rs := [.cell 4 26,.tmp 5]) [.g tSSd,.c (.int .i64)] [.g tSSd,.v (.int .i64)] mixed es_rwa Try.func26 rfl rfl rfl (by kernel_rfl) (by kernel_rfl) f h vs hv
end Go.AL
namespace Go.AL
open Go.Proofs
set_option maxHeartbeats 4000000
theorem rtk_0 (x2 : SSd) (n v id en ev : Int) (l : List SDs) (hl : l.length ≤ 1000) : ∀ (r : List SDs) (j : Nat) (left : List SDs),l.drop j = r → (∀ d ∈ r,dW d = 0 → 0 ≤ dDl d + dPer d ∧ dDl d + dPer d ≤ 4611686018427387904) → left.length + r.length ≤ 1000 →
  ∃ f,L_rtk_0 f (x2,(n,v,l),id,en,ev,left,((j : Nat) : Int)) = some ((n,v,left ++ tckL n r),id,en,ev,0)
 | [],j,left,hr,h,hll => by
  have hj : l.length ≤ j := List.drop_eq_nil_iff.1 hr
  refine ⟨1,?_⟩
  rw [L_rtk_0_eq]
  simp only [decide_eq_false (show ¬ ((j : Nat) : Int) < ((l.length : Nat) : Int) by omega),cond_false,tckL,List.append_nil]
 | d :: r,j,left,hr,h,hll => by
  have hj : j < l.length := by
   have := congrArg List.length hr
   simp only [List.length_drop,List.length_cons] at this
   omega
  simp only [List.length_cons] at hll
  have hdj : l[j]? = some d := by
   have := congrArg (fun q => q[0]?) hr
   simpa using this
  have hg : l.getD j zQ = d := by rw [List.getD_eq_getElem?_getD,hdj]; rfl
  have hr' : l.drop (j + 1) = r := by rw [← List.tail_drop,hr]; rfl
  have hw : IntKind.i64.wrap (((j : Nat) : Int) + 1) = ((j + 1 : Nat) : Int) := by rw [i64_id (by omega) (by omega)]; rfl
  have h1 : decide (((j : Nat) : Int) < ((l.length : Nat) : Int)) = true := decide_eq_true (by omega)
  have h0 : decide ((0 : Int) ≤ ((j : Nat) : Int)) = true := decide_eq_true (by omega)
  have ih : ∀ left' : List SDs,left'.length ≤ left.length + 1 → _ := fun left' hl' => rtk_0 x2 n v id en ev l hl r (j + 1) left' hr' (fun e he => h e (List.mem_cons_of_mem _ he)) (by omega)
  have hlen : ∀ e : SDs,decide ((left.length + [e].length) * 88 ≤ 140737488355328) = true := fun e => decide_eq_true (by simp only [List.length_singleton]; omega)
  have hd := h d (List.mem_cons_self ..)
  cases hW : decide (d.2.1 = 0) with
  | false =>
   have e : tckD n d = [d] := by unfold tckD; rw [show decide (dW d = 0) = false from hW]; rfl
   obtain ⟨f,hf⟩ := ih (left ++ [d]) (by simp)
   refine ⟨f + 1,?_⟩
   rw [L_rtk_0_eq,tckL,e,← List.append_assoc]
   simp only [Int.toNat_natCast,h1,h0,hg,beqD,hW,hw,hlen,Bool.and_self,cond_true,cond_false]
   exact hf
  | true =>
   cases hD : decide (d.2.2.2.2.2.2.2.1 = n) with
   | false =>
    have e : tckD n d = [d] := by unfold tckD; rw [show decide (dW d = 0) = true from hW,show decide (dDl d = n) = false from hD]; rfl
    obtain ⟨f,hf⟩ := ih (left ++ [d]) (by simp)
    refine ⟨f + 1,?_⟩
    rw [L_rtk_0_eq,tckL,e,← List.append_assoc]
    simp only [Int.toNat_natCast,h1,h0,hg,beqD,hW,hD,hw,hlen,Bool.and_self,cond_true,cond_false]
    exact hf
   | true =>
    cases hR : d.2.2.2.2.2.2.1 with
    | true =>
     have e : tckD n d = [] := by unfold tckD; rw [show decide (dW d = 0) = true from hW,show decide (dDl d = n) = true from hD,show dRem d = true from hR]; rfl
     obtain ⟨f,hf⟩ := ih left (by omega)
     refine ⟨f + 1,?_⟩
     rw [L_rtk_0_eq,tckL,e,List.nil_append]
     simp only [Int.toNat_natCast,h1,h0,hg,beqD,hW,hD,hR,hw,Bool.and_self,cond_true]
     exact hf
    | false =>
     obtain ⟨w1,w2⟩ := hd (of_decide_eq_true hW)
     have ew : IntKind.i64.wrap (d.2.2.2.2.2.2.2.1 + d.2.2.1) = d.2.2.2.2.2.2.2.1 + d.2.2.1 := i64_id (show -9223372036854775808 ≤ dDl d + dPer d by omega) (show dDl d + dPer d ≤ _ by omega)
     have e : tckD n d = [upT (upT (upT (upT (upT (upT (upS (upT (upH d.2.2.2.1) (upH (d.2.2.2.2.2.2.2.1 + d.2.2.1) d.2.2.2.2.2.2.2)))))))) d] := by
      clear ih h hd ew w1 w2 hg hdj hr
      obtain ⟨d1,d2,d3,d4,d5,d6,d7,d8,d9,d10,d11⟩ := d
      have hR : d7 = false := hR
      subst hR
      unfold tckD
      rw [show decide (dW _ = 0) = true from hW,show decide (dDl _ = n) = true from hD]
      rfl
     obtain ⟨f,hf⟩ := ih (left ++ [upT (upT (upT (upT (upT (upT (upS (upT (upH d.2.2.2.1) (upH (d.2.2.2.2.2.2.2.1 + d.2.2.1) d.2.2.2.2.2.2.2)))))))) d]) (by simp)
     refine ⟨f + 1,?_⟩
     rw [L_rtk_0_eq,tckL,e,← List.append_assoc]
     simp only [Int.toNat_natCast,h1,h0,hg,beqD,hW,hD,hR,hw,ew,hlen,Bool.and_self,cond_true,cond_false]
     exact hf
theorem rtk_run : ∀ s : SSd,(okD : SSd → Bool) s = true → ∃ f,M_rtk f s = some ((tckS : SSd → SSd × Int × Int × Int × Int) s) := fun s h => by
 have key : (∃ f,M_rtk (f + 1) s = some (tckS s)) → ∃ f,M_rtk f s = some (tckS s) := fun ⟨f,hf⟩ => ⟨f + 1,hf⟩
 apply key
 clear key
 obtain ⟨T,hT⟩ : ∃ T,T = tckS s := ⟨_,rfl⟩
 rw [← hT]
 unfold tckS at hT
 cases hv : valS s with
 | false =>
  rw [hv] at hT
  refine ⟨0,?_⟩
  rw [M_rtk_eq,hv,hT]; rfl
 | true =>
  have V := (valS_iff s).1 hv
  have hr := V.rng
  simp only [rngB,Bool.and_eq_true,decide_eq_true_eq] at hr
  have hlen := V.len
  have ev2 : (1125899906842624 - 2520 : Int) = 1125899906840104 := rfl
  cases h1 : decide (s.1 = 1099511627776) with
  | true =>
   rw [hv,h1] at hT
   refine ⟨0,?_⟩
   rw [M_rtk_eq,hv,beqD,h1,hT]; rfl
  | false =>
   cases h2 : decide (s.2.1 > 1125899906840104) with
   | true =>
    rw [hv,h1,ev2,h2] at hT
    refine ⟨0,?_⟩
    rw [M_rtk_eq,hv,beqD,h1,h2,hT]; rfl
   | false =>
    have e1 : IntKind.i64.wrap (s.1 + 1) = s.1 + 1 := i64_id (by omega) (by omega)
    have hl1 : decide (s.2.2.length ≤ 1000) = true := decide_eq_true (by omega)
    have safe : ∀ {d : SDs},vdiS (d,s.1,s.2.1) = true → dW d = 0 → 0 ≤ dDl d + dPer d ∧ dDl d + dPer d ≤ 4611686018427387904 := fun {d} hd hw => by
     simp only [vdiS,corB,decide_eq_true hw,cond_true,rtB,Bool.and_eq_true,decide_eq_true_eq] at hd
     obtain ⟨_,_,_,_,q5,_,_,q8,q9,_⟩ := hd
     have := perB_rng q5
     omega
    have fin : ∀ (L : List SDs) (v id en ev : Int),L.length ≤ 32 → (∀ d ∈ L,dW d = 0 → 0 ≤ dDl d + dPer d ∧ dDl d + dPer d ≤ 4611686018427387904) →
      ∃ f,L_rtk_0 f ((0,0,[]),(s.1 + 1,v,L),id,en,ev,[],0) = some ((s.1 + 1,v,tckL (s.1 + 1) L),id,en,ev,0) := fun L v id en ev hL hs =>
     rtk_0 (0,0,[]) (s.1 + 1) v id en ev L (by omega) L 0 [] rfl hs (by simp; omega)
    simp only [M_rtk_eq]
    delta qb1 qb2 qb3 qb4 qb5
    simp only [hv,beqD,bneD,h1,h2,h,hl1,e1,Bool.not_true,cond_false,cond_true,Bool.true_and]
    rw [hv,h1,ev2,h2] at hT
    rcases ch_best s.2.2 with ⟨c0,c1,c2⟩ | ⟨A,d,B,c1,c2,c3,_⟩ | ⟨A,d,B,c1,c2,c3,_⟩
    ·obtain ⟨f,hf⟩ := fin s.2.2 s.2.1 (-1) 0 0 hlen (fun d hd => safe (V.all d hd))
     have hrun : runS s = (s.2.2,s.2.1,-1,0,0) := by unfold runS; rw [decide_eq_true c0]; rfl
     simp only [c1,decide_eq_false (show ¬ (-1 : Int) ≥ 0 by omega),cond_false]
     refine ⟨f,hf.trans ?_⟩
     rw [hT,hrun]; rfl
    all_goals
     have hg : ∀ z,s.2.2.getD A.length z = d := fun z => by rw [c1]; simp
     have hs : ∀ d',s.2.2.set A.length d' = A ++ [d'] ++ B := fun d' => by rw [c1]; simp
     have hl : decide (((A.length : Nat) : Int) < ((s.2.2.length : Nat) : Int)) = true := decide_eq_true (by rw [c1]; simp; omega)
     have hd := V.all d (by rw [c1]; simp)
     have hall : ∀ e,e ∈ A ∨ e ∈ B → vdiS (e,s.1,s.2.1) = true := fun e he => V.all e (by rw [c1]; rcases he with he | he <;> simp [he])
     have hAB : A.length + B.length + 1 ≤ 32 := by rw [c1] at hlen; simp at hlen; omega
     have fin2 : ∀ (d' : SDs) (v id en ev : Int),(dW d' = 0 → 0 ≤ dDl d' + dPer d' ∧ dDl d' + dPer d' ≤ 4611686018427387904) → _ := fun d' v id en ev hd' => fin (A ++ [d'] ++ B) v id en ev (by simp; omega) (fun e he => by
      rcases List.mem_append.1 he with he | he
      ·rcases List.mem_append.1 he with he | he
       ·exact safe (hall e (.inl he))
       ·rw [List.mem_singleton.1 he]; exact hd'
      ·exact safe (hall e (.inr he)))
     have hrun : runS s = (A ++ [(entD (chgD d)).1] ++ B,(bif decide (dW d = 0) then s.2.1 else dPas d),dId d,(entD (chgD d)).2) := by
      unfold runS
      rw [c2,Int.toNat_natCast,hg,hs,decide_eq_false (show ¬ ((A.length : Nat) : Int) < 0 by omega)]; rfl
     have hsafe := safe hd
     rw [hrun] at hT
     rw [c2]
     simp only [hg,hs,hl,Int.toNat_natCast,decide_eq_true (show ((A.length : Nat) : Int) ≥ 0 by omega),decide_eq_true (show (0 : Int) ≤ ((A.length : Nat) : Int) by omega),cond_true,Bool.and_self,Bool.true_and,gtD_mid,st_mid]
     clear hg hs hl hrun c1 c2 hall fin safe
     obtain ⟨d1,d2,d3,d4,d5,d6,d7,d8,d9,d10,d11⟩ := d
    ·simp only [mayR,dW,dRem,dBlk,dLft,Bool.and_eq_true,Bool.not_eq_true',decide_eq_true_eq] at c3
     obtain ⟨m1,m2,m3,m4⟩ := c3
     subst m1
     simp only [vdiS,corB,rtB,dId,dW,dPer,dBud,dBlk,dDis,dRem,dDl,dLft,dPas,ups,decide_true,cond_true,Bool.and_eq_true,decide_eq_true_eq] at hd
     obtain ⟨q1,q2,q3,q4,q5,q6,q7,q8,q9,q10,q11,_⟩ := hd
     have hp := perB_rng q5
     have ew : IntKind.i64.wrap (d9 - 1) = d9 - 1 := i64_id (by omega) (by omega)
     simp only [upT,upH,upS,ew,decide_true,Bool.not_true,cond_false,cond_true,dW,dId,gtD_mid,st_mid]
     cases d6 with
     | true =>
      obtain ⟨f,hf⟩ := fin2 (d1,0,d3,d4,d5,true,d7,d8,d9 - 1,d10,d11) s.2.1 d1 2 0 hsafe
      simp only [cond_true,Bool.and_self]
      exact ⟨f,hf.trans (by rw [hT]; rfl)⟩
     | false =>
      cases d11 with
      | nil =>
       obtain ⟨f,hf⟩ := fin2 (d1,0,d3,d4,d5,false,d7,d8,d9 - 1,d10,[]) s.2.1 d1 1 0 hsafe
       simp only [cond_false,List.length_nil,decide_eq_false (show ¬ ((0 : Nat) : Int) > 0 by omega),Bool.and_self]
       exact ⟨f,hf.trans (by rw [hT]; rfl)⟩
      | cons e r =>
       obtain ⟨f,hf⟩ := fin2 (d1,0,d3,d4,d5,true,d7,d8,d9 - 1,d10,r) s.2.1 d1 3 e hsafe
       have g1 : decide ((((e :: r).length : Nat) : Int) > 0) = true := decide_eq_true (by simp only [List.length_cons]; omega)
       have g2 : decide (0 < (((e :: r).length : Nat) : Int)) = true := decide_eq_true (by simp only [List.length_cons]; omega)
       have g3 : decide (1 ≤ (((e :: r).length : Nat) : Int)) = true := decide_eq_true (by simp only [List.length_cons]; omega)
       have g4 : (e :: r).drop (Int.toNat 1) = r := rfl
       have g5 : ∀ z,(e :: r).getD (Int.toNat 0) z = e := fun z => rfl
       have g6 : ∀ z,(e :: r).getD 0 z = e := fun z => rfl
       simp only [cond_true,cond_false,g1,g2,g3,g4,g5,g6,Bool.and_self]
       exact ⟨f,hf.trans (by rw [hT]; rfl)⟩
    ·simp only [mayB,dW,dBlk,Bool.and_eq_true,Bool.not_eq_true',decide_eq_false_iff_not] at c3
     obtain ⟨m1,m2⟩ := c3
     have hw0 : decide (d2 = 0) = false := decide_eq_false m1
     simp only [vdiS,corB,beB,dId,dW,dPer,dBud,dBlk,dDis,dRem,dDl,dLft,dPas,ups,hw0,cond_false,Bool.and_eq_true,Bool.or_eq_true,decide_eq_true_eq] at hd
     obtain ⟨q1,q2,q3,q4,q5,q6,q7,q8,_⟩ := hd
     have t1 : (2520 : Int).tdiv d2 = 2520 / d2 := Int.tdiv_eq_ediv_of_nonneg (by omega)
     have t2 : 0 ≤ (2520 : Int) / d2 := Int.ediv_nonneg (by omega) (by omega)
     have t3 : (2520 : Int) / d2 ≤ 2520 := Int.ediv_le_self _ (by omega)
     have ew0 : IntKind.i64.wrap (2520 / d2) = 2520 / d2 := i64_id (by omega) (by omega)
     have ew : IntKind.i64.wrap (d10 + 2520 / d2) = d10 + 2520 / d2 := i64_id (by omega) (by omega)
     have hsafe2 : ∀ x : SDs,dW x = d2 → (dW x = 0 → 0 ≤ dDl x + dPer x ∧ dDl x + dPer x ≤ 4611686018427387904) := fun x hx h0 => absurd (hx.symm.trans h0) m1
     simp only [upT,upH,upS,t1,ew0,ew,hw0,Bool.not_false,cond_false,cond_true,dW,dId,dPas,gtD_mid,st_mid,Bool.true_and]
     cases d6 with
     | true =>
      obtain ⟨f,hf⟩ := fin2 (d1,d2,d3,d4,d5,true,d7,d8,d9,d10 + 2520 / d2,d11) d10 d1 2 0 (hsafe2 _ rfl)
      simp only [cond_true,Bool.and_self]
      refine ⟨f,hf.trans ?_⟩
      rw [hT]
      unfold chgD
      simp only [dW,hw0]; rfl
     | false =>
      cases d11 with
      | nil =>
       obtain ⟨f,hf⟩ := fin2 (d1,d2,d3,d4,d5,false,d7,d8,d9,d10 + 2520 / d2,[]) d10 d1 1 0 (hsafe2 _ rfl)
       simp only [cond_false,List.length_nil,decide_eq_false (show ¬ ((0 : Nat) : Int) > 0 by omega),Bool.and_self]
       refine ⟨f,hf.trans ?_⟩
       rw [hT]
       unfold chgD
       simp only [dW,hw0]; rfl
      | cons e r =>
       obtain ⟨f,hf⟩ := fin2 (d1,d2,d3,d4,d5,true,d7,d8,d9,d10 + 2520 / d2,r) d10 d1 3 e (hsafe2 _ rfl)
       have g1 : decide ((((e :: r).length : Nat) : Int) > 0) = true := decide_eq_true (by simp only [List.length_cons]; omega)
       have g2 : decide (0 < (((e :: r).length : Nat) : Int)) = true := decide_eq_true (by simp only [List.length_cons]; omega)
       have g3 : decide (1 ≤ (((e :: r).length : Nat) : Int)) = true := decide_eq_true (by simp only [List.length_cons]; omega)
       have g4 : (e :: r).drop (Int.toNat 1) = r := rfl
       have g5 : ∀ z,(e :: r).getD (Int.toNat 0) z = e := fun z => rfl
       have g6 : ∀ z,(e :: r).getD 0 z = e := fun z => rfl
       simp only [cond_true,cond_false,g1,g2,g3,g4,g5,g6,Bool.and_self]
       refine ⟨f,hf.trans ?_⟩
       rw [hT]
       unfold chgD
       simp only [dW,hw0]; rfl
noncomputable def E_rtk : Ent := ⟨31,[.g tSSd],[.g tSSd,.v (.int .i64),.v (.int .i64),.v (.int .i64),.v (.int .i64)],fun a => (okD : SSd → Bool) a,fun a => (tckS : SSd → SSd × Int × Int × Int × Int) a⟩
theorem E_rtk_ok : E_rtk.Ok Try.prog := fun a hp vs hv => (rtk_run a hp).elim fun f h => fnX_ok (C := C_rtk) (Lt := Lt_rtk) (fn := Try.f31) (rs := [.cell 2 26,.tmp 3,.tmp 4,.tmp 5,.tmp 6]) [.g tSSd] [.g tSSd,.v (.int .i64),.v (.int .i64),.v (.int .i64),.v (.int .i64)] mixed es_rtk Try.func31 rfl rfl rfl (by kernel_rfl) (by kernel_rfl) f h vs hv
end Go.AL
namespace Go.AL
open Go.Proofs
set_option maxHeartbeats 4000000
theorem ins_all {d : SDs} : ∀ {r : List SDs},(∀ e ∈ r,d.1 < e.1) → insL d r = d :: r
 | [],_ => rfl
 | e :: r,h => by
  have := h e (List.mem_cons_self ..)
  rw [insL,decide_eq_false (by omega),cond_false]
theorem rad_end {x10 : SSd} {n v : Int} {L : List SDs} {k : Int} (hu : utPre L = true) (f : Nat)
  (hk : ¬ k > 0 ∨ (0 ≤ k ∧ k < ((L.length : Nat) : Int) ∧ 0 < k ∧ k ≤ 1000 ∧ ¬ (L.getD k.toNat zQ).1 < (L.getD (k - 1).toNat zQ).1)) :
  L_rad_1 (f + 1) (x10,(n,v,L),k) = some (bif decide (utS L > 1024) then ((0,0,[]),15) else ((n,v,L),0)) := by
 rw [L_rad_1_eq]
 rcases hk with hk | ⟨h1,h2,h3,h4,h5⟩
 ·rw [decide_eq_false hk,cond_false]
  simp only [hu,cond_true]
  cases decide (utS L > 1024) <;> rfl
 ·have e : IntKind.i64.wrap (k - 1) = k - 1 := i64_id (by omega) (by omega)
  simp only [e,decide_eq_true (show k > 0 by omega),decide_eq_true h1,decide_eq_true h2,decide_eq_true (show 0 ≤ k - 1 by omega),decide_eq_true (show k - 1 < ((L.length : Nat) : Int) by omega),decide_eq_false h5,hu,cond_true,cond_false,Bool.and_self]
  cases decide (utS L > 1024) <;> rfl
theorem rad_1 {x10 : SSd} {n v : Int} {d : SDs} {L : List SDs} (hL : L.length ≤ 32) (hs : L.Pairwise (fun a b => a.1 < b.1)) (hne : ∀ e ∈ L,e.1 ≠ d.1) (hu : ∀ p r : List SDs,L = p ++ r → utPre (p ++ d :: r) = true) :
  ∀ (m : Nat) (p r : List SDs),p.length = m → L = p ++ r → (∀ e ∈ r,d.1 < e.1) → ∃ f,L_rad_1 f (x10,(n,v,p ++ d :: r),((p.length : Nat) : Int)) = some (bif decide (utS (insL d L) > 1024) then ((0,0,[]),15) else ((n,v,insL d L),0))
 | 0,p,r,hm,e,hr => by
  have hp : p = [] := List.length_eq_zero_iff.1 hm
  subst hp
  refine ⟨1,?_⟩
  have e : L = r := e
  rw [rad_end (hu [] r e) 0 (.inl (by show ¬ ((0 : Nat) : Int) > 0; omega)),e,ins_all hr]; rfl
 | m + 1,p,r,hm,e,hr => by
  obtain ⟨q,x,rfl⟩ : ∃ q x,p = q ++ [x] := ⟨p.dropLast,p.getLast (by intro h; rw [h] at hm; cases hm),(List.dropLast_concat_getLast _).symm⟩
  have hq : q.length = m := by simpa using hm
  have hx : x.1 ≠ d.1 := hne x (by rw [e]; simp)
  have hlen : (q ++ [x]).length = m + 1 := hm
  have hl2 : m + 1 + r.length ≤ 32 := by rw [e,List.length_append,hm] at hL; exact hL
  have hs2 := hs
  rw [e,List.pairwise_append] at hs2
  have hg1 : ∀ z,(q ++ [x] ++ d :: r).getD (m + 1) z = d := fun z => by rw [List.getD_eq_getElem?_getD,List.getElem?_append_right (by omega),hlen,Nat.sub_self]; rfl
  have hg2 : ∀ z,(q ++ [x] ++ d :: r).getD m z = x := fun z => by
   rw [List.append_assoc,List.getD_eq_getElem?_getD,List.getElem?_append_right (by omega),hq,Nat.sub_self]; rfl
  have hlt : (q ++ [x] ++ d :: r).length = m + 1 + r.length + 1 := by rw [List.length_append,hlen,List.length_cons]; omega
  by_cases hc : d.1 < x.1
  ·have e' : L = q ++ x :: r := by rw [e,List.append_assoc]; rfl
   obtain ⟨f,hf⟩ := rad_1 hL hs hne hu m q (x :: r) hq e' (fun y hy => by
    rcases List.mem_cons.1 hy with rfl | hy
    ·exact hc
    ·exact hr y hy)
   refine ⟨f + 1,?_⟩
   have hw : IntKind.i64.wrap (((m + 1 : Nat) : Int) - 1) = ((m : Nat) : Int) := by rw [i64_id (by omega) (by omega)]; omega
   have hset : ((q ++ [x] ++ d :: r).set (m + 1) x).set m d = q ++ d :: x :: r := by
    rw [List.set_append_right _ _ (by omega),hlen,Nat.sub_self,List.set_cons_zero,List.append_assoc,List.set_append_right _ _ (by omega),hq,Nat.sub_self]; rfl
   rw [hlen,L_rad_1_eq]
   simp only [hw,Int.toNat_natCast,hg1,hg2,hset,List.length_set,hlt,decide_eq_true (show ((m + 1 : Nat) : Int) > 0 by omega),decide_eq_true (show (0 : Int) ≤ ((m + 1 : Nat) : Int) by omega),decide_eq_true (show ((m + 1 : Nat) : Int) < ((m + 1 + r.length + 1 : Nat) : Int) by omega),decide_eq_true (show (0 : Int) ≤ ((m : Nat) : Int) by omega),decide_eq_true (show ((m : Nat) : Int) < ((m + 1 + r.length + 1 : Nat) : Int) by omega),decide_eq_true hc,cond_true,Bool.and_self]
   rw [hq] at hf
   exact hf
  ·refine ⟨1,?_⟩
   have hins : insL d L = q ++ [x] ++ d :: r := by
    rw [e,insL_app (fun y hy => ?_),ins_all hr]
    rcases List.mem_append.1 hy with hy | hy
    ·have h1 := (List.pairwise_append.1 hs2.1).2.2 y hy x (List.mem_singleton.2 rfl)
     omega
    ·rw [List.mem_singleton.1 hy]; omega
   have e9 : (((m + 1 : Nat) : Int) - 1).toNat = m := by omega
   rw [hins,hlen,rad_end (hu _ _ e) 0 (.inr ⟨by omega,by rw [hlt]; omega,by omega,by omega,by rw [Int.toNat_natCast,e9,hg1,hg2]; exact hc⟩)]
theorem at_any {s : SSd} {id : Int} : decide (atS (s,id) ≥ 0) = s.2.2.any (fun d => decide (d.1 = id)) := by
 show decide (atL id s.2.2 0 ≥ 0) = _
 have : ∀ (l : List SDs) (k : Nat),decide (atL id l k ≥ 0) = l.any (fun d => decide (d.1 = id)) := by
  intro l
  induction l with
  | nil => intro k; rfl
  | cons d r ih =>
   intro k
   show decide ((bif d.1 == id then ((k : Nat) : Int) else atL id r (k + 1)) ≥ 0) = (decide (d.1 = id) || r.any _)
   rw [beqD]
   cases decide (d.1 = id)
   ·rw [cond_false,ih,Bool.false_or]
   ·rw [cond_true,Bool.true_or]; exact decide_eq_true (by omega)
 exact this _ _
theorem new_vdi {s : SSd} (hv : valS s = true) (id w p b : Int) : vdiS (newDs s id w p b,s.1,s.2.1) = (decide (0 ≤ id) && (decide (id < 32) && prmB (w,p,b))) := by
 have hr := ((valS_iff s).1 hv).rng
 simp only [rngB,Bool.and_eq_true,decide_eq_true_eq] at hr
 cases hw : decide (w = 0) with
 | true =>
  cases hp : perB p with
  | true =>
   have := perB_rng hp
   simp only [vdiS,upB,corB,rtB,newDs,prmB,hw,hp,dId,dW,dPer,dBud,dBlk,dDis,dRem,dDl,dLft,dPas,ups,decide_true,cond_true,Bool.and_self,Bool.true_and]
   have := of_decide_eq_true hw
   subst this
   by_cases h1 : 0 ≤ id <;> by_cases h2 : id < 32 <;> by_cases h3 : b ≥ 1 <;> by_cases h4 : b ≤ p <;> simp [h1,h2,h3,h4] <;> omega
  | false =>
   simp only [vdiS,upB,corB,rtB,newDs,prmB,hw,hp,dId,dW,dPer,dBud,dBlk,dDis,dRem,dDl,dLft,dPas,ups,cond_true,cond_false,Bool.and_false,Bool.false_and]
   simp
 | false =>
  simp only [vdiS,upB,corB,beB,newDs,prmB,hw,dId,dW,dPer,dBud,dBlk,dDis,dRem,dDl,dLft,dPas,ups,cond_false,Bool.false_and]
  by_cases h1 : 0 ≤ id <;> by_cases h2 : id < 32 <;> by_cases h3 : w ≥ 1 <;> by_cases h4 : w ≤ 10 <;> by_cases h5 : p = 0 <;> by_cases h6 : b = 0 <;> simp [h1,h2,h3,h4,h5,h6] <;> omega
theorem rad_run : ∀ a : SSd × Int × Int × Int × Int,okD a.1 = true → ∃ f,M_rad f a = some (addS a) := fun (s,id,w,p,b) h => by
 have h : okD s = true := h
 have step : ∀ f,M_rad (f + 1) (s,id,w,p,b) = _ := fun f => M_rad_eq f s id w p b
 cases hv : valS s with
 | false =>
  refine ⟨1,(step 0).trans ?_⟩
  simp only [addS,hv,Bool.not_false,cond_true]; rfl
 | true =>
  have V := (valS_iff s).1 hv
  have hr := V.rng
  simp only [rngB,Bool.and_eq_true,decide_eq_true_eq] at hr
  have hlen := V.len
  have hvd := new_vdi hv id w p b
  have hadd : addS (s,id,w,p,b) = bif !vdiS (newDs s id w p b,s.1,s.2.1) then (zSs,1) else bif s.2.2.any (fun d => decide (d.1 = id)) then (zSs,56) else bif decide (utS (insL (newDs s id w p b) s.2.2) > 1024) then (zSs,15) else ((s.1,s.2.1,insL (newDs s id w p b) s.2.2),0) := by unfold addS; rw [show (s,id,w,p,b).1 = s from rfl,hv]; rfl
  by_cases h1 : id < 0
  ·refine ⟨1,(step 0).trans ?_⟩
   rw [hadd,hvd,decide_eq_false (show ¬ 0 ≤ id by omega),hv,decide_eq_true h1]; rfl
  by_cases h2 : id ≥ 32
  ·refine ⟨1,(step 0).trans ?_⟩
   rw [hadd,hvd,decide_eq_false (show ¬ id < 32 by omega),Bool.false_and,Bool.and_false,hv,decide_eq_false h1,decide_eq_true h2]; rfl
  rw [decide_eq_true (show 0 ≤ id by omega),decide_eq_true (show id < 32 by omega),Bool.true_and,Bool.true_and] at hvd
  cases hp : prmB (w,p,b) with
  | false =>
   refine ⟨1,(step 0).trans ?_⟩
   rw [hadd,hvd,hv,hp,decide_eq_false h1,decide_eq_false h2]; rfl
  | true =>
   rw [hp] at hvd
   cases ha : s.2.2.any (fun d => decide (d.1 = id)) with
   | true =>
    refine ⟨1,(step 0).trans ?_⟩
    rw [hadd,hvd,ha,hv,hp,decide_eq_false h1,decide_eq_false h2,h,at_any,ha]; rfl
   | false =>
    have hl1 : decide ((s.2.2.length + 1) * 88 ≤ 140737488355328) = true := decide_eq_true (by omega)
    have hne : ∀ e ∈ s.2.2,e.1 ≠ id := fun e he hq => by
     rw [List.any_eq_false] at ha
     have := ha e he
     simp at this
     exact this hq
    have go : ∀ d : SDs,d = newDs s id w p b → ∃ f,L_rad_1 f ((0,0,[]),(s.1,s.2.1,s.2.2 ++ [d]),IntKind.i64.wrap ((((s.2.2 ++ [d]).length : Nat) : Int) - 1)) = some (addS (s,id,w,p,b)) := fun d hd => by
     have hd1 : d.1 = id := by rw [hd]; rfl
     have hrt : rtOK d = true := vdi_rt (by rw [hd]; exact hvd)
     obtain ⟨f,hf⟩ := rad_1 (x10 := (0,0,[])) (n := s.1) (v := s.2.1) (d := d) hlen V.srt (fun e he => by rw [hd1]; exact hne e he) (fun q r e => by
      unfold utPre
      rw [Bool.and_eq_true]
      refine ⟨decide_eq_true (by rw [e] at hlen; simp at hlen ⊢; omega),List.all_eq_true.2 fun y hy => ?_⟩
      rcases List.mem_append.1 hy with hy | hy
      ·exact vdi_rt (V.all y (by rw [e]; exact List.mem_append_left _ hy))
      ·rcases List.mem_cons.1 hy with rfl | hy
       ·exact hrt
       ·exact vdi_rt (V.all y (by rw [e]; exact List.mem_append_right _ hy))) s.2.2.length s.2.2 [] rfl (by simp) (fun e he => by cases he)
     refine ⟨f,?_⟩
     have hw : IntKind.i64.wrap ((((s.2.2 ++ [d]).length : Nat) : Int) - 1) = ((s.2.2.length : Nat) : Int) := by
      rw [List.length_append,List.length_singleton,i64_id (by omega) (by omega)]; omega
     rw [hw,hf,hadd,hvd,ha,hd]; rfl
    cases hw : decide (w = 0) with
    | false =>
     have hb0 : b = 0 := by
      simp only [prmB,hw,Bool.not_false,cond_true,cond_false,Bool.and_eq_true,decide_eq_true_eq] at hp
      exact hp.2.2.2
     obtain ⟨f,hf⟩ := go (id,w,p,b,false,false,false,0,0,s.2.1,[]) (by unfold newDs; rw [hw,hb0]; rfl)
     refine ⟨f + 1,(step f).trans ?_⟩
     simp only [hv,hp,h,hl1,at_any,ha,bneD,hw,decide_eq_false h1,decide_eq_false h2,Bool.not_true,Bool.not_false,cond_true,cond_false]
     exact hf
    | true =>
     have hper : perB p = true := by
      simp only [prmB,hw,Bool.not_true,cond_true,cond_false,Bool.and_eq_true,decide_eq_true_eq] at hp
      exact hp.1
     have hpr := perB_rng hper
     have ew : IntKind.i64.wrap (s.1 + p) = s.1 + p := i64_id (by omega) (by omega)
     obtain ⟨f,hf⟩ := go (id,w,p,b,false,false,false,s.1 + p,b,0,[]) (by unfold newDs; rw [hw,hper]; rfl)
     refine ⟨f + 1,(step f).trans ?_⟩
     simp only [hv,hp,h,hl1,at_any,ha,bneD,hw,ew,decide_eq_false h1,decide_eq_false h2,Bool.not_true,cond_true,cond_false]
     exact hf
noncomputable def E_rad : Ent := ⟨18,[.g tSSd,.c (.int .i64),.c (.int .i64),.c (.int .i64),.c (.int .i64)],[.g tSSd,.v (.int .i64)],fun a => (fun a => okD a.1 : SSd × Int × Int × Int × Int → Bool) a,fun a => (addS : SSd × Int × Int × Int × Int → SSd × Int) a⟩
theorem E_rad_ok : E_rad.Ok Try.prog := fun a hp vs hv => (rad_run a hp).elim fun f h => fnX_ok (C := C_rad) (Lt := Lt_rad) (fn := Try.f18) (rs := [.cell 10 26,.tmp 11]) [.g tSSd,.c (.int .i64),.c (.int .i64),.c (.int .i64),.c (.int .i64)] [.g tSSd,.v (.int .i64)] mixed es_rad Try.func18 rfl rfl rfl (by kernel_rfl) (by kernel_rfl) f h vs hv
end Go.AL
