/-
  Layer 30 (sched): slices.DeleteFunc in Tick. By an AI agent.
-/
import Derived.Test.YtmdmmikpmhopkaaK12
import Derived.Test.YtmdmmikpmhopkaaAxLrun
set_option linter.unusedVariables false
set_option linter.unusedSimpArgs false
namespace Go.AL
open Go.Proofs
noncomputable def C_tk1 : Cfg := ⟨Try.prog,[E_irt],pmT [],17,[],[],[],[]⟩
theorem es_tk1 : EsOk Try.prog [E_irt] [] [] := es_cons E_irt_ok (es_nil)
def Lt_tk1 : Nat → LD := ldT []
noncomputable def M_tk1 (f : Nat) (a : SDs × Int × Int) : Option (Bool) := (runX (C_tk1) Lt_tk1 (Kret Try.prog [.tmp 3] [.v (.bool)]) f [.code (bodyOf Try.f43)] (initX [.g tSDs,.cp [.int .i64,.int .i64]] a) : Option (ResT [.v (.bool)]))
theorem M_tk1_eq (f : Nat) (d : SDs) (o : Int × Int) : M_tk1 (f + 1) (d,o) =
  bif d.2.1 == 0 then bif d.2.2.2.2.2.2.1 then some (d.2.2.2.2.2.2.2.1 == o.1) else some false else some false := by kernel_rfl
noncomputable def F_tk1 : (SDs × Int × Int) → Bool
 | (d,o) => bif d.2.1 == 0 then bif d.2.2.2.2.2.2.1 then d.2.2.2.2.2.2.2.1 == o.1 else false else false
noncomputable def P_tk1 : (SDs × Int × Int) → Bool
 | (d,o) => true
theorem tk1_auto : ∀ a : SDs × Int × Int,Rns (fun f => M_tk1 f a) (P_tk1 a) (F_tk1 a)
 | (d,o) => ev_step (fun f => M_tk1_eq f _ _) (ev_bift (ev_bift ev_some ev_some) ev_some)
def idxS (p : SDs → Bool) : List SDs → Nat → Int
 | [],_ => -1
 | d :: r,k => bif p d then ((k : Nat) : Int) else idxS p r (k + 1)
def goneS (d : SDs) (now : Int) : Bool := decide (dW d = 0) && dRem d && decide (dDl d = now)
theorem tk1_P : ∀ a : SDs × Int × Int,(fun _ => true : SDs × Int × Int → Bool) a = true → P_tk1 a = true := fun _ _ => rfl
theorem tk1_F : ∀ a : SDs × Int × Int,(fun _ => true : SDs × Int × Int → Bool) a = true → F_tk1 a = (fun a : SDs × Int × Int => goneS a.1 a.2.1) a := fun (d,n,v) _ => by
 show F_tk1 (d,n,v) = goneS d n
 simp only [F_tk1,goneS,dW,dRem,dDl]
 by_cases h1 : d.2.1 = 0 <;> by_cases h2 : d.2.2.2.2.2.2.2.1 = n <;> cases h3 : d.2.2.2.2.2.2.1 <;> simp [h1,h2]
theorem tk1_run : ∀ a,(fun _ => true : SDs × Int × Int → Bool) a = true → ∃ f,M_tk1 f a = some ((fun a : SDs × Int × Int => goneS a.1 a.2.1 : SDs × Int × Int → Bool) a) := fun a h => by have h1 := tk1_auto a (tk1_P a h); rw [tk1_F a h] at h1; exact h1
noncomputable def E_tk1 : Ent := ⟨43,[.g tSDs,.cp [.int .i64,.int .i64]],[.v (.bool)],fun a => (fun _ => true : SDs × Int × Int → Bool) a,fun a => (fun a : SDs × Int × Int => goneS a.1 a.2.1 : SDs × Int × Int → Bool) a⟩
theorem E_tk1_ok : E_tk1.Ok Try.prog := fun a hp vs hv => (tk1_run a hp).elim fun f h => fnX_ok (C := C_tk1) (Lt := Lt_tk1) (fn := Try.f43) (rs := [.tmp 3]) [.g tSDs,.cp [.int .i64,.int .i64]] [.v (.bool)] mixed es_tk1 Try.func43 rfl rfl rfl (by kernel_rfl) (by kernel_rfl) f h vs hv
noncomputable def C_dif : Cfg := ⟨Try.prog,[E_tk1],pmT [],19,[],[],[],[]⟩
theorem es_dif : EsOk Try.prog [E_tk1] [] [] := es_cons E_tk1_ok (es_nil)
def Lt_dif : Nat → LD := ldT [(0,⟨[.rd 0 tSDs,.fn 1 43 [[.int .i64,.int .i64]],.c 7 (.int .i64),.c 8 (.int .i64)],[],0⟩)]
noncomputable def M_dif (f : Nat) (a : (List (SDs)) × Int × Int) : Option (Int) := (runX (C_dif) Lt_dif (Kret Try.prog [.tmp 4] [.v (.int .i64)]) f [.code (bodyOf Try.f67)] (initX [.rd tSDs,.fn 43 [[.int .i64,.int .i64]]] a) : Option (ResT [.v (.int .i64)]))
noncomputable def L_dif_0 (f : Nat) (x : (List (SDs)) × (Int × Int) × Int × Int) : Option (Int) := (runX (C_dif) Lt_dif (Kret Try.prog [.tmp 4] [.v (.int .i64)]) f (headOf Try.f67 0) ((Lt_dif 0).mk' x) : Option (ResT [.v (.int .i64)]))
theorem M_dif_eq (f : Nat) (l : List (SDs)) (pf : Int × Int) : M_dif (f + 1) (l,pf) =
  L_dif_0 f (l,pf,(↑l.length : Int),0) := by kernel_rfl
theorem L_dif_0_eq (f : Nat) (s : List (SDs)) (f0 : Int × Int) (x7 : Int) (x8 : Int) : L_dif_0 (f + 1) (s,f0,x7,x8) =
  bif decide (x8 < x7) then bif decide (0 ≤ x8) && decide (x8 < (↑s.length : Int)) then bif goneS (s.getD x8.toNat zQ) f0.1 then some x8 else L_dif_0 f (s,f0,x7,IntKind.i64.wrap (x8 + 1)) else none else some (-1) := by kernel_rfl
noncomputable def F_dif_0 : List (SDs) → ((List (SDs)) × (Int × Int) × Int × Nat) → Int
 | [],(s,f0,x7,x8) => -1
 | uu :: rest,(s,f0,x7,x8) => bif goneS uu f0.1 then (↑x8 : Int) else F_dif_0 rest (s,f0,x7,x8 + 1)
noncomputable def P_dif_0 : List (SDs) → ((List (SDs)) × (Int × Int) × Int × Nat) → Bool
 | [],(s,f0,x7,x8) => true
 | uu :: rest,(s,f0,x7,x8) => bif goneS uu f0.1 then true else P_dif_0 rest (s,f0,x7,x8 + 1)
theorem A_dif_0 : ∀ (rest : List (SDs)) (s : List (SDs)) (f0 : Int × Int) (x7 : Int) (x8 : Nat) (hd : s.drop x8 = rest) (hn : x7 = ((s.length : Nat) : Int)) (hl : s.length ≤ 1099511627776),Rns (fun f => L_dif_0 f (s,f0,x7,((x8 : Nat) : Int))) (P_dif_0 rest (s,f0,x7,x8)) (F_dif_0 rest (s,f0,x7,x8))
 | [],s,f0,x7,x8,hd,hn,hl => ev_step (T := fun f => some (-1)) (fun f => (L_dif_0_eq f _ _ _ _).trans (by simp only [ge_decn hn (drop_ge hd),ge0,Bool.and_self,Bool.true_and,cond_true,cond_false,List.length_set] <;> rfl)) ev_some
 | uu :: rest,s,f0,x7,x8,hd,hn,hl => ev_step (T := fun f => bif goneS uu f0.1 then some (↑x8 : Int) else L_dif_0 f (s,f0,x7,(↑(x8 + 1) : Int))) (fun f => (L_dif_0_eq f _ _ _ _).trans (by simp only [lt_decn hn (drop_lt hd),lt_dec (drop_lt hd),drop_get hd,wrap_succ (drop_lt hd) hl,getD_set (drop_lt hd),ge0,Bool.and_self,Bool.true_and,cond_true,cond_false,List.length_set] <;> rfl)) (ev_bif ev_some (A_dif_0 rest _ _ _ _ (by first | exact drop_succ hd | exact drop_set hd | exact drop_setS (drop_set hd)) (by first | exact hn | simpa using hn) (by first | exact hl | simpa using hl)))
noncomputable def F_dif : ((List (SDs)) × Int × Int) → Int
 | (l,pf) => F_dif_0 l (l,pf,(↑l.length : Int),0)
noncomputable def P_dif : ((List (SDs)) × Int × Int) → Bool
 | (l,pf) => decide (l.length ≤ 1099511627776) && P_dif_0 l (l,pf,(↑l.length : Int),0)
theorem dif_auto : ∀ a : (List (SDs)) × Int × Int,Rns (fun f => M_dif f a) (P_dif a) (F_dif a)
 | (l,pf) => ev_step (fun f => M_dif_eq f _ _) (ev_and fun hh => A_dif_0 _ _ _ _ _ rfl (by first | rfl | simp) (of_decide_eq_true hh))
theorem dif_0 (l : List SDs) (o : Int × Int) (x : Int) : ∀ (r : List SDs) (k : Nat),F_dif_0 r (l,o,x,k) = idxS (fun d => goneS d o.1) r k ∧ P_dif_0 r (l,o,x,k) = true
 | [],k => ⟨rfl,rfl⟩
 | d :: r,k => by
  obtain ⟨i1,i2⟩ := dif_0 l o x r (k + 1)
  simp only [F_dif_0,P_dif_0,idxS,i1,i2]
  exact ⟨trivial,by cases goneS d o.1 <;> rfl⟩
theorem dif_P : ∀ a : List SDs × Int × Int,(fun a : List SDs × Int × Int => len40n a.1) a = true → P_dif a = true := fun (l,o) h => by simp only [P_dif,(dif_0 _ _ _ _ _).2,Bool.and_true]; exact h
theorem dif_F : ∀ a : List SDs × Int × Int,(fun a : List SDs × Int × Int => len40n a.1) a = true → F_dif a = (fun a : List SDs × Int × Int => idxS (fun d => goneS d a.2.1) a.1 0) a := fun (l,o) h => by simp only [F_dif,(dif_0 _ _ _ _ _).1]
theorem dif_run : ∀ a,(fun a => len40n a.1 : (List (SDs)) × Int × Int → Bool) a = true → ∃ f,M_dif f a = some ((fun a => idxS (fun d => goneS d a.2.1) a.1 0 : (List (SDs)) × Int × Int → Int) a) := fun a h => by have h1 := dif_auto a (dif_P a h); rw [dif_F a h] at h1; exact h1
noncomputable def E_dif : Ent := ⟨67,[.rd tSDs,.fn 43 [[.int .i64,.int .i64]]],[.v (.int .i64)],fun a => (fun a => len40n a.1 : (List (SDs)) × Int × Int → Bool) a,fun a => (fun a => idxS (fun d => goneS d a.2.1) a.1 0 : (List (SDs)) × Int × Int → Int) a⟩
theorem E_dif_ok : E_dif.Ok Try.prog := fun a hp vs hv => (dif_run a hp).elim fun f h => fnX_ok (C := C_dif) (Lt := Lt_dif) (fn := Try.f67) (rs := [.tmp 4]) [.rd tSDs,.fn 43 [[.int .i64,.int .i64]]] [.v (.int .i64)] mixed es_dif Try.func67 rfl rfl rfl (by kernel_rfl) (by kernel_rfl) f h vs hv
noncomputable def C_dlf : Cfg := ⟨Try.prog,[E_dif,E_tk1],pmT [],42,[],[],[],[]⟩
theorem es_dlf : EsOk Try.prog [E_dif,E_tk1] [] [] := es_cons E_dif_ok (es_cons E_tk1_ok (es_nil))
def Lt_dlf : Nat → LD := ldTL 1 [(0,⟨[.list 0 500 53 11 tSDs,.fn 1 43 [[.int .i64,.int .i64]],.c 5 (.int .i64),.c 6 (.int .i64)],[],1⟩)]
noncomputable def M_dlf (f : Nat) (a : (List (SDs)) × Int × Int) : Option ((List (SDs))) := (runX (C_dlf) Lt_dlf (KretM Try.prog [.tmp 4] [.o 53 11 tSDs]) f [.code (bodyOf Try.f42)] (initXL false 53 11 tSDs [.fn 43 [[.int .i64,.int .i64]]] a.1 [] a.2) : Option (ResT [.o 53 11 tSDs]))
noncomputable def L_dlf_0 (f : Nat) (x : (List (SDs)) × (Int × Int) × Int × Int) : Option ((List (SDs))) := (runX (C_dlf) Lt_dlf (KretM Try.prog [.tmp 4] [.o 53 11 tSDs]) f (headOf Try.f42 0) ((Lt_dlf 0).mk' x) : Option (ResT [.o 53 11 tSDs]))
theorem M_dlf_eq (f : Nat) (l : List (SDs)) (pf : Int × Int) : M_dlf (f + 1) (l,pf) =
  bif len40n l then bif idxS (fun d => goneS d pf.1) l 0 == -1 then some l else L_dlf_0 f (l,pf,idxS (fun d => goneS d pf.1) l 0,IntKind.i64.wrap (idxS (fun d => goneS d pf.1) l 0 + 1)) else none := by kernel_rfl
theorem L_dlf_0_eq (f : Nat) (s : List (SDs)) (del : Int × Int) (i : Int) (j : Int) : L_dlf_0 (f + 1) (s,del,i,j) =
  bif decide (j < (↑s.length : Int)) then bif decide (0 ≤ j) && decide (j < (↑s.length : Int)) then bif !goneS (s.getD j.toNat zQ) del.1 then bif decide (0 ≤ i) && decide (i < (↑s.length : Int)) then L_dlf_0 f (s.set i.toNat (s.getD j.toNat zQ),del,IntKind.i64.wrap (i + 1),IntKind.i64.wrap (j + 1)) else none else L_dlf_0 f (s,del,i,IntKind.i64.wrap (j + 1)) else none else bif decide (0 ≤ i) && decide (i ≤ (↑s.length : Int)) then bif decide (0 ≤ i) && decide (i ≤ (↑(List.take i.toNat s ++ List.replicate (s.length - i.toNat) zQ).length : Int)) then some (List.take i.toNat (List.take i.toNat s ++ List.replicate (s.length - i.toNat) zQ)) else none else none := by kernel_rfl
theorem idxS_spec (p : SDs → Bool) : ∀ (l : List SDs) (k : Nat),(idxS p l k = -1 ∧ ∀ d ∈ l,p d = false) ∨ ∃ A d B,l = A ++ d :: B ∧ idxS p l k = ((k + A.length : Nat) : Int) ∧ p d = true ∧ ∀ e ∈ A,p e = false
 | [],k => .inl ⟨rfl,fun _ h => by cases h⟩
 | d :: r,k => by
  cases hp : p d with
  | true => exact .inr ⟨[],d,r,rfl,by simp [idxS,hp],hp,fun _ h => by cases h⟩
  | false =>
   rcases idxS_spec p r (k + 1) with ⟨h1,h2⟩ | ⟨A,e,B,h1,h2,h3,h4⟩
   ·refine .inl ⟨by simp [idxS,hp,h1],fun x hx => ?_⟩
    rcases List.mem_cons.1 hx with rfl | hx
    ·exact hp
    ·exact h2 x hx
   ·refine .inr ⟨d :: A,e,B,by rw [h1]; rfl,?_,h3,fun x hx => ?_⟩
    ·simp only [idxS,hp,cond_false,h2,List.length_cons]; congr 1; omega
    ·rcases List.mem_cons.1 hx with rfl | hx
     ·exact hp
     ·exact h4 x hx
theorem dlf_0 (o : Int × Int) : ∀ (m : Nat) (s : List SDs) (i j : Nat),s.length ≤ 1099511627776 → i ≤ j → i ≤ s.length → s.length - j = m → ∃ f,L_dlf_0 f (s,o,((i : Nat) : Int),((j : Nat) : Int)) = some (s.take i ++ (s.drop j).filter fun d => !goneS d o.1)
 | 0,s,i,j,hl,hij,his,hm => by
  refine ⟨1,?_⟩
  rw [L_dlf_0_eq]
  have h1 : decide (((j : Nat) : Int) < ((s.length : Nat) : Int)) = false := decide_eq_false (by omega)
  have hlen : (s.take i ++ List.replicate (s.length - i) (zQ : SDs)).length = s.length := by simp; omega
  have h2 : decide (((i : Nat) : Int) ≤ ((s.length : Nat) : Int)) = true := decide_eq_true (by omega)
  have h3 : decide ((0 : Int) ≤ ((i : Nat) : Int)) = true := decide_eq_true (by omega)
  have htl : (s.take i).length = i := by rw [List.length_take]; omega
  simp only [Int.toNat_natCast,h1,h3,hlen,h2,cond_true,cond_false,Bool.and_self]
  rw [List.drop_eq_nil_of_le (by omega),List.filter_nil,List.append_nil,List.take_append_of_le_length (by omega),List.take_take,Nat.min_self]
 | m + 1,s,i,j,hl,hij,his,hm => by
  have hj : j < s.length := by omega
  obtain ⟨d,hd⟩ : ∃ d,s[j]? = some d := ⟨_,List.getElem?_eq_getElem hj⟩
  have hdr : s.drop j = d :: s.drop (j + 1) := by
   rw [List.drop_eq_getElem_cons hj]
   congr 1
   exact (List.getElem?_eq_some_iff.1 hd).2
  have hg : s.getD j zQ = d := by rw [List.getD_eq_getElem?_getD,hd]; rfl
  have h1 : decide (((j : Nat) : Int) < ((s.length : Nat) : Int)) = true := decide_eq_true (by omega)
  have h2 : decide ((0 : Int) ≤ ((j : Nat) : Int)) = true := decide_eq_true (by omega)
  have h3 : decide ((0 : Int) ≤ ((i : Nat) : Int)) = true := decide_eq_true (by omega)
  have h4 : decide (((i : Nat) : Int) < ((s.length : Nat) : Int)) = true := decide_eq_true (by omega)
  have wj : IntKind.i64.wrap (((j : Nat) : Int) + 1) = ((j + 1 : Nat) : Int) := by rw [i64_id (by omega) (by omega)]; rfl
  have wi : IntKind.i64.wrap (((i : Nat) : Int) + 1) = ((i + 1 : Nat) : Int) := by rw [i64_id (by omega) (by omega)]; rfl
  cases hp : goneS d o.1 with
  | true =>
   obtain ⟨f,hf⟩ := dlf_0 o m s i (j + 1) hl (by omega) his (by omega)
   refine ⟨f + 1,?_⟩
   rw [L_dlf_0_eq]
   simp only [Int.toNat_natCast,h1,h2,hg,hp,wj,Bool.and_self,Bool.not_true,cond_true,cond_false]
   rw [hf,hdr,List.filter_cons_of_neg (by simp [hp])]
  | false =>
   obtain ⟨f,hf⟩ := dlf_0 o m (s.set i d) (i + 1) (j + 1) (by simpa using hl) (by omega) (by simp; omega) (by simp; omega)
   refine ⟨f + 1,?_⟩
   rw [L_dlf_0_eq]
   simp only [Int.toNat_natCast,h1,h2,h3,h4,hg,hp,wi,wj,Bool.and_self,Bool.not_false,cond_true,cond_false]
   rw [hf,hdr,List.filter_cons_of_pos (by simp [hp]),List.drop_set_of_lt (by omega)]
   have : (s.set i d).take (i + 1) = s.take i ++ [d] := by
    rw [List.take_add_one,List.take_set_of_le (Nat.le_refl _),List.getElem?_set_self (by omega)]
    rfl
   rw [this,List.append_assoc]
   rfl
theorem dlf_run : ∀ a : List SDs × Int × Int,(fun a : List SDs × Int × Int => len40n a.1) a = true → ∃ f,M_dlf f a = some ((fun a : List SDs × Int × Int => a.1.filter fun d => !goneS d a.2.1) a) := by
 rintro ⟨l,o⟩ h
 have hl : l.length ≤ 1099511627776 := of_decide_eq_true (show len40n l = true from h)
 have h : len40n l = true := h
 rcases idxS_spec (fun d => goneS d o.1) l 0 with ⟨h1,h2⟩ | ⟨A,d,B,h1,h2,h3,h4⟩
 ·refine ⟨1,?_⟩
  rw [M_dlf_eq,h,h1]
  show some l = some _
  congr 1
  exact (List.filter_eq_self.2 fun d hd => by simp [h2 d hd]).symm
 ·have e1 : (idxS (fun d => goneS d o.1) l 0 == -1) = false := by rw [h2]; exact beq_eq_false_iff_ne.2 (by omega)
  have hA : A.length < l.length := by rw [h1]; simp
  obtain ⟨f,hf⟩ := dlf_0 o _ l A.length (A.length + 1) hl (by omega) (by omega) rfl
  refine ⟨f + 1,?_⟩
  have e2 : IntKind.i64.wrap (idxS (fun d => goneS d o.1) l 0 + 1) = ((A.length + 1 : Nat) : Int) := by
   rw [h2,Nat.zero_add,i64_id (by omega) (by omega)]; rfl
  rw [M_dlf_eq,h,e1,e2,h2,Nat.zero_add]
  show L_dlf_0 f (l,o,_,_) = _
  rw [hf]
  congr 1
  show _ = l.filter _
  have e3 : l.take A.length = A := by rw [h1,List.take_left]
  have e4 : l.drop (A.length + 1) = B := by rw [h1,show A.length + 1 = (A ++ [d]).length by simp,show A ++ d :: B = (A ++ [d]) ++ B by simp,List.drop_left]
  have e5 : A.filter (fun d => !goneS d o.1) = A := List.filter_eq_self.2 fun e he => by simp [h4 e he]
  rw [e3,e4]
  conv => rhs; rw [h1,List.filter_append,e5,List.filter_cons_of_neg (by simp [h3])]
noncomputable def E_dlf : EntL := ⟨42,true,false,53,11,tSDs,[.fn 43 [[.int .i64,.int .i64]]],[.o 53 11 tSDs],fun l l2 a => (fun a => len40n a.1 : (List (SDs)) × Int × Int → Bool) (l,a),fun l l2 a => ((fun a => a.1.filter fun d => !goneS d a.2.1 : (List (SDs)) × Int × Int → (List (SDs))) (l,a),l)⟩
theorem E_dlf_ok : E_dlf.Ok Try.prog := entL_mv (C := C_dlf) (Lt := Lt_dlf) (fn := Try.f42) (rs := [.tmp 4]) E_dlf Try.prog rfl rfl rfl mixed es_dlf ⟨rfl,rfl⟩ (ldTL_ln (by decide +kernel)) Try.func42 rfl rfl rfl (by decide) (by kernel_rfl) (by kernel_rfl) (by decide) fun l a hp => dlf_run (l,a) hp
end Go.AL
