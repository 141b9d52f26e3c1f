/-
  Layer 30 (sched): the contracts of Add, Remove, Block, Wake, Enable. By an AI agent.
-/
import Derived.Test.YtmdmmikpmhopkaaK12
set_option linter.unusedVariables false
set_option linter.unusedSimpArgs false
namespace Go.AL
open Go.Proofs
set_option maxHeartbeats 4000000
theorem chg_cases {s : SSd} {id : Int} (hv : valS s = true) (ho : decide (opnI id s.2.2 0 < 0) = false) : ∃ A d B,s.2.2 = A ++ d :: B ∧ opnI id s.2.2 0 = ((A.length : Nat) : Int) ∧ d.1 = id ∧ dRem d = false ∧ vdiS (d,s.1,s.2.1) = true ∧
  (∀ z,s.2.2.getD A.length z = d) ∧ (∀ d',s.2.2.set A.length d' = A ++ [d'] ++ B) ∧ s.2.2.take A.length = A ∧ s.2.2.drop (A.length + 1) = B ∧ decide ((0 : Int) ≤ ((A.length : Nat) : Int)) = true ∧ decide (((A.length : Nat) : Int) < ((s.2.2.length : Nat) : Int)) = true := by
 have V := (valS_iff s).1 hv
 obtain ⟨A,d,B,e1,e2,e3,e4⟩ := opn_split (of_decide_eq_false ho)
 rw [Nat.zero_add] at e2
 refine ⟨A,d,B,e1,e2,e3,e4,V.all d (by rw [e1]; simp),fun z => by rw [e1]; simp,fun d' => by rw [e1]; simp,by rw [e1,List.take_left],?_,decide_eq_true (by omega),decide_eq_true (by rw [e1]; simp; omega)⟩
 rw [e1,show A.length + 1 = (A ++ [d]).length by simp,show A ++ d :: B = (A ++ [d]) ++ B by simp,List.drop_left]
theorem val_len {s : SSd} (hv : valS s = true) : len40n s.2.2 = true := decide_eq_true (by have := ((valS_iff s).1 hv).len; omega)
theorem gtD_mid (A B : List SDs) (d z : SDs) : (A ++ [d] ++ B).getD A.length z = d := by simp
theorem st_mid (A B : List SDs) (d e : SDs) : (A ++ [d] ++ B).set A.length e = A ++ [e] ++ B := by simp
theorem blk_both : ∀ a : SSd × Int,okD a.1 = true → P_blk a = true ∧ F_blk a = chgS a.1 a.2 blkF := fun (s,id) h => by
 have h : okD s = true := h
 show P_blk (s,id) = true ∧ F_blk (s,id) = chgS s id blkF
 cases hv : valS s with
 | false => simp only [P_blk,F_blk,chgS,hv,Bool.not_false,cond_true]; exact ⟨trivial,rfl⟩
 | true =>
  cases ho : decide (opnI id s.2.2 0 < 0) with
  | true => simp only [P_blk,F_blk,chgS,hv,ho,val_len hv,Bool.not_true,cond_true,cond_false,Bool.and_self]; exact ⟨trivial,rfl⟩
  | false =>
   obtain ⟨A,d,B,e1,e2,e3,e4,vd,hg,hs,ht,hd,k2,k3⟩ := chg_cases hv ho
   rw [e2] at ho
   simp only [P_blk,F_blk,chgS,hv,e2,ho,val_len hv,h,hg,hs,ht,hd,k2,k3,Int.toNat_natCast,Bool.not_true,cond_true,cond_false,Bool.and_self]
   exact ⟨trivial,rfl⟩
theorem ena_both : ∀ a : SSd × Int,okD a.1 = true → P_ena a = true ∧ F_ena a = chgS a.1 a.2 enaF := fun (s,id) h => by
 have h : okD s = true := h
 show P_ena (s,id) = true ∧ F_ena (s,id) = chgS s id enaF
 cases hv : valS s with
 | false => simp only [P_ena,F_ena,chgS,hv,Bool.not_false,cond_true]; exact ⟨trivial,rfl⟩
 | true =>
  cases ho : decide (opnI id s.2.2 0 < 0) with
  | true => simp only [P_ena,F_ena,chgS,hv,ho,val_len hv,Bool.not_true,cond_true,cond_false,Bool.and_self]; exact ⟨trivial,rfl⟩
  | false =>
   obtain ⟨A,d,B,e1,e2,e3,e4,vd,hg,hs,ht,hd,k2,k3⟩ := chg_cases hv ho
   rw [e2] at ho
   simp only [P_ena,F_ena,chgS,hv,e2,ho,val_len hv,h,hg,hs,ht,hd,k2,k3,Int.toNat_natCast,Bool.not_true,cond_true,cond_false,Bool.and_self]
   exact ⟨trivial,rfl⟩
theorem rem_both : ∀ a : SSd × Int,okD a.1 = true → P_rem a = true ∧ F_rem a = chgS a.1 a.2 remF := fun (s,id) h => by
 have h : okD s = true := h
 show P_rem (s,id) = true ∧ F_rem (s,id) = chgS s id remF
 cases hv : valS s with
 | false => simp only [P_rem,F_rem,chgS,hv,Bool.not_false,cond_true]; exact ⟨trivial,rfl⟩
 | true =>
  cases ho : decide (opnI id s.2.2 0 < 0) with
  | true => simp only [P_rem,F_rem,chgS,hv,ho,val_len hv,Bool.not_true,cond_true,cond_false,Bool.and_self]; exact ⟨trivial,rfl⟩
  | false =>
   have hlen := ((valS_iff s).1 hv).len
   obtain ⟨A,d,B,e1,e2,e3,e4,vd,hg,hs,ht,hd,k2,k3⟩ := chg_cases hv ho
   rw [e2] at ho
   have hlt : A.length < s.2.2.length := by rw [e1]; simp
   have hw : IntKind.i64.wrap (((A.length : Nat) : Int) + 1) = ((A.length : Nat) : Int) + 1 := i64_id (by omega) (by omega)
   have hp : delP s.2.2 (((A.length : Nat) : Int),((A.length : Nat) : Int) + 1) = true := by
    unfold delP
    rw [k2,k3,decide_eq_true (show (((A.length : Nat) : Int),((A.length : Nat) : Int) + 1).2 = (((A.length : Nat) : Int),((A.length : Nat) : Int) + 1).1 + 1 from rfl)]; rfl
   have hdf : delF s.2.2 (((A.length : Nat) : Int),((A.length : Nat) : Int) + 1) = A ++ B := by
    unfold delF
    rw [Int.toNat_natCast,ht,hd]
   simp only [P_rem,F_rem,chgS,hv,e2,ho,val_len hv,h,hg,hs,ht,hd,k2,k3,hw,hp,hdf,Int.toNat_natCast,Bool.not_true,cond_true,cond_false,Bool.and_self,gtD_mid,st_mid,beqD,Bool.true_and]
   unfold remF
   cases hW : decide (d.2.1 = 0) with
   | true => exact ⟨rfl,by simp only [dW,hW,cond_true,cond_false,Bool.not_true,decide_eq_true,upT,upH,upS,gtD_mid,st_mid]⟩
   | false => exact ⟨rfl,by simp only [dW,hW,cond_true,cond_false,Bool.not_false,List.append_nil]; rfl⟩
theorem rem_P : ∀ a : SSd × Int,(fun a : SSd × Int => okD a.1) a = true → P_rem a = true := fun a h => (rem_both a h).1
theorem rem_F : ∀ a : SSd × Int,(fun a : SSd × Int => okD a.1) a = true → F_rem a = (fun a : SSd × Int => chgS a.1 a.2 remF) a := fun a h => (rem_both a h).2
theorem rem_run : ∀ a,(fun a => okD a.1 : SSd × Int → Bool) a = true → ∃ f,M_rem f a = some ((fun a => chgS a.1 a.2 remF : SSd × Int → SSd × Int) a) := fun a h => by have h1 := rem_auto a (rem_P a h); rw [rem_F a h] at h1; exact h1
noncomputable def E_rem : Ent := ⟨15,[.g tSSd,.c (.int .i64)],[.g tSSd,.v (.int .i64)],fun a => (fun a => okD a.1 : SSd × Int → Bool) a,fun a => (fun a => chgS a.1 a.2 remF : SSd × Int → SSd × Int) a⟩
theorem E_rem_ok : E_rem.Ok Try.prog := fun a hp vs hv => (rem_run a hp).elim fun f h => fnX_ok (C := C_rem) (Lt := Lt_rem) (fn := Try.f15) (rs := [.cell 4 26,.tmp 5]) [.g tSSd,.c (.int .i64)] [.g tSSd,.v (.int .i64)] mixed es_rem Try.func15 rfl rfl rfl (by kernel_rfl) (by kernel_rfl) f h vs hv
theorem blk_P : ∀ a : SSd × Int,(fun a : SSd × Int => okD a.1) a = true → P_blk a = true := fun a h => (blk_both a h).1
theorem blk_F : ∀ a : SSd × Int,(fun a : SSd × Int => okD a.1) a = true → F_blk a = (fun a : SSd × Int => chgS a.1 a.2 blkF) a := fun a h => (blk_both a h).2
theorem blk_run : ∀ a,(fun a => okD a.1 : SSd × Int → Bool) a = true → ∃ f,M_blk f a = some ((fun a => chgS a.1 a.2 blkF : SSd × Int → SSd × Int) a) := fun a h => by have h1 := blk_auto a (blk_P a h); rw [blk_F a h] at h1; exact h1
noncomputable def E_blk : Ent := ⟨23,[.g tSSd,.c (.int .i64)],[.g tSSd,.v (.int .i64)],fun a => (fun a => okD a.1 : SSd × Int → Bool) a,fun a => (fun a => chgS a.1 a.2 blkF : SSd × Int → SSd × Int) a⟩
theorem E_blk_ok : E_blk.Ok Try.prog := fun a hp vs hv => (blk_run a hp).elim fun f h => fnX_ok (C := C_blk) (Lt := Lt_blk) (fn := Try.f23) (rs := [.cell 4 26,.tmp 5]) [.g tSSd,.c (.int .i64)] [.g tSSd,.v (.int .i64)] mixed es_blk Try.func23 rfl rfl rfl (by kernel_rfl) (by kernel_rfl) f h vs hv
theorem ena_P : ∀ a : SSd × Int,(fun a : SSd × Int => okD a.1) a = true → P_ena a = true := fun a h => (ena_both a h).1
theorem ena_F : ∀ a : SSd × Int,(fun a : SSd × Int => okD a.1) a = true → F_ena a = (fun a : SSd × Int => chgS a.1 a.2 enaF) a := fun a h => (ena_both a h).2
theorem ena_run : ∀ a,(fun a => okD a.1 : SSd × Int → Bool) a = true → ∃ f,M_ena f a = some ((fun a => chgS a.1 a.2 enaF : SSd × Int → SSd × Int) a) := fun a h => by have h1 := ena_auto a (ena_P a h); rw [ena_F a h] at h1; exact h1
noncomputable def E_ena : Ent := ⟨29,[.g tSSd,.c (.int .i64)],[.g tSSd,.v (.int .i64)],fun a => (fun a => okD a.1 : SSd × Int → Bool) a,fun a => (fun a => chgS a.1 a.2 enaF : SSd × Int → SSd × Int) a⟩
theorem E_ena_ok : E_ena.Ok Try.prog := fun a hp vs hv => (ena_run a hp).elim fun f h => fnX_ok (C := C_ena) (Lt := Lt_ena) (fn := Try.f29) (rs := [.cell 4 26,.tmp 5]) [.g tSSd,.c (.int .i64)] [.g tSSd,.v (.int .i64)] mixed es_ena Try.func29 rfl rfl rfl (by kernel_rfl) (by kernel_rfl) f h vs hv
theorem insL_app {d : SDs} : ∀ {p r : List SDs},(∀ e ∈ p,e.1 < d.1) → insL d (p ++ r) = p ++ insL d r
 | [],r,_ => rfl
 | e :: p,r,h => by
  rw [List.cons_append,insL,decide_eq_true (h e (List.mem_cons_self ..)),cond_true,insL_app (fun x hx => h x (List.mem_cons_of_mem _ hx))]; rfl
theorem add_0 {s : SSd} (h : okD s = true) (hv : valS s = true) (x : SSd) {d : SDs} (hd : rtOK d = true) : ∀ (r p : List SDs),s.2.2 = p ++ r → (∀ e ∈ p,e.1 < d.1) →
  F_add_0 r (d.1,s,x,d,p.length) = (bif r.any (fun e => decide (e.1 = d.1)) then (zSs,56) else bif decide (utS (p ++ insL d r) > 1024) then (zSs,15) else ((s.1,s.2.1,p ++ insL d r),0)) ∧ P_add_0 r (d.1,s,x,d,p.length) = true := by
 have V := (valS_iff s).1 hv
 have ins : ∀ (p r : List SDs),s.2.2 = p ++ r → insF s.2.2 [d] ((p.length : Nat) : Int) = p ++ d :: r ∧ insP 88 s.2.2 [d] ((p.length : Nat) : Int) = true ∧ utPre (p ++ d :: r) = true := fun p r e => by
  have hlen := V.len
  have hl : s.2.2.length = p.length + r.length := by rw [e,List.length_append]
  refine ⟨?_,?_,?_⟩
  ·unfold insF
   rw [Int.toNat_natCast,e,List.take_left,List.drop_left]; simp
  ·unfold insP
   rw [decide_eq_true (show (0 : Int) ≤ ((p.length : Nat) : Int) by omega),decide_eq_true (show ((p.length : Nat) : Int) ≤ ((s.2.2.length : Nat) : Int) by omega)]
   simp; omega
  ·have hall : ∀ e ∈ p ++ d :: r,rtOK e = true := fun e' he => by
    rcases List.mem_append.1 he with he | he
    ·exact vdi_rt (V.all e' (by rw [e]; exact List.mem_append_left _ he))
    ·rcases List.mem_cons.1 he with rfl | he
     ·exact hd
     ·exact vdi_rt (V.all e' (by rw [e]; exact List.mem_append_right _ he))
   unfold utPre
   rw [Bool.and_eq_true]
   exact ⟨decide_eq_true (by simp; omega),List.all_eq_true.2 hall⟩
 intro r
 induction r with
 | nil =>
  intro p e hp
  obtain ⟨i1,i2,i3⟩ := ins p [] e
  have hnl : decide (((p.length : Nat) : Int) < ((s.2.2.length : Nat) : Int)) = false := decide_eq_false (by rw [e]; simp)
  simp only [F_add_0,P_add_0,hnl,i1,i2,i3,h,cond_false,Bool.and_self,List.any_nil,insL]
  exact ⟨rfl,trivial⟩
 | cons u r ih =>
  intro p e hp
  obtain ⟨i1,i2,i3⟩ := ins p (u :: r) e
  cases hu : decide (u.1 < d.1) with
  | true =>
   obtain ⟨j1,j2⟩ := ih (p ++ [u]) (by rw [e]; simp) (fun y hy => by
    rcases List.mem_append.1 hy with hy | hy
    ·exact hp y hy
    ·rw [List.mem_singleton.1 hy]; exact of_decide_eq_true hu)
   rw [List.length_append,List.length_singleton] at j1 j2
   have hne : decide (u.1 = d.1) = false := decide_eq_false (by have := of_decide_eq_true hu; omega)
   simp only [F_add_0,P_add_0,hu,cond_true,j1,j2,List.any_cons,hne,Bool.false_or,insL,List.append_assoc,List.cons_append,List.nil_append]
   exact ⟨trivial,trivial⟩
  | false =>
   have hs := V.srt
   rw [e,List.pairwise_append] at hs
   have hs2 := List.pairwise_cons.1 hs.2.1
   have hge := of_decide_eq_false hu
   cases hq : decide (u.1 = d.1) with
   | true =>
    simp only [F_add_0,P_add_0,hu,cond_false,beqD,hq,cond_true,List.any_cons,Bool.true_or]
    exact ⟨rfl,trivial⟩
   | false =>
    have hnone : r.any (fun e => decide (e.1 = d.1)) = false := by
     rw [List.any_eq_false]
     intro y hy
     have := hs2.1 y hy
     have := of_decide_eq_false hq
     simp; omega
    simp only [F_add_0,P_add_0,hu,cond_false,beqD,hq,List.any_cons,hnone,Bool.or_self,i1,i2,i3,h,Bool.and_self,insL]
    exact ⟨rfl,trivial⟩
theorem add_tail {s : SSd} (h : okD s = true) (hv : valS s = true) (x : SSd) (d : SDs) : (bif !vdiS (d,s.1,s.2.1) then (((0,0,[]),1) : SSd × Int) else F_add_0 s.2.2 (d.1,s,x,d,0)) =
   (bif !vdiS (d,s.1,s.2.1) then (zSs,1) else bif s.2.2.any (fun e => decide (e.1 = d.1)) then (zSs,56) else bif decide (utS (insL d s.2.2) > 1024) then (zSs,15) else ((s.1,s.2.1,insL d s.2.2),0)) ∧
  (bif !vdiS (d,s.1,s.2.1) then true else decide (s.2.2.length ≤ 1099511627776) && P_add_0 s.2.2 (d.1,s,x,d,0)) = true := by
 cases hd : vdiS (d,s.1,s.2.1) with
 | false => exact ⟨rfl,rfl⟩
 | true =>
  obtain ⟨j1,j2⟩ := add_0 h hv x (vdi_rt hd) s.2.2 [] rfl (fun _ h => by cases h)
  have hlen : decide (s.2.2.length ≤ 1099511627776) = true := val_len hv
  simp only [Bool.not_true,cond_false]
  rw [hlen]
  exact ⟨j1,j2⟩
theorem add_both : ∀ a : SSd × Int × Int × Int × Int,okD a.1 = true → P_add a = true ∧ F_add a = addS a := fun (s,id,w,p,b) h => by
 have h : okD s = true := h
 cases hv : valS s with
 | false => simp only [P_add,F_add,addS,hv,Bool.not_false,cond_true]; exact ⟨trivial,rfl⟩
 | true =>
  have V := (valS_iff s).1 hv
  have hr := V.rng
  have hr2 := hr
  simp only [rngB,Bool.and_eq_true,decide_eq_true_eq] at hr2
  simp only [P_add,F_add,addS,hv,hr,bneD,Bool.not_true,cond_false,Bool.true_and]
  cases hw : decide (w = 0) with
  | false =>
   obtain ⟨j1,j2⟩ := add_tail h hv (0,0,[]) (newDs s id w p b)
   simp only [newDs,hw,Bool.false_and,cond_false] at j1 j2 ⊢
   exact ⟨j2,j1⟩
  | true =>
   cases hp : perB p with
   | false =>
    obtain ⟨j1,j2⟩ := add_tail h hv (0,0,[]) (newDs s id w p b)
    simp only [newDs,hw,hp,Bool.and_false,cond_false,cond_true] at j1 j2 ⊢
    exact ⟨j2,j1⟩
   | true =>
    have := perB_rng hp
    have hwr : IntKind.i64.wrap (s.1 + p) = s.1 + p := i64_id (by omega) (by omega)
    obtain ⟨j1,j2⟩ := add_tail h hv (0,0,[]) (newDs s id w p b)
    simp only [newDs,hw,hp,hwr,Bool.and_self,cond_false,cond_true,Bool.not_true] at j1 j2 ⊢
    exact ⟨j2,j1⟩
theorem add_P : ∀ a : SSd × Int × Int × Int × Int,(fun a : SSd × Int × Int × Int × Int => okD a.1) a = true → P_add a = true := fun a h => (add_both a h).1
theorem add_F : ∀ a : SSd × Int × Int × Int × Int,(fun a : SSd × Int × Int × Int × Int => okD a.1) a = true → F_add a = addS a := fun a h => (add_both a h).2
theorem add_run : ∀ a,(fun a => okD a.1 : SSd × Int × Int × Int × Int → Bool) a = true → ∃ f,M_add f a = some ((addS : SSd × Int × Int × Int × Int → SSd × Int) a) := fun a h => by have h1 := add_auto a (add_P a h); rw [add_F a h] at h1; exact h1
noncomputable def E_add : Ent := ⟨13,[.g tSSd,.c (.int .i64),.c (.int .i64),.c (.int .i64),.c (.int .i64)],[.g tSSd,.v (.int .i64)],fun a => (fun a => okD a.1 : SSd × Int × Int × Int × Int → Bool) a,fun a => (addS : SSd × Int × Int × Int × Int → SSd × Int) a⟩
theorem E_add_ok : E_add.Ok Try.prog := fun a hp vs hv => (add_run a hp).elim fun f h => fnX_ok (C := C_add) (Lt := Lt_add) (fn := Try.f13) (rs := [.cell 10 26,.tmp 11]) [.g tSSd,.c (.int .i64),.c (.int .i64),.c (.int .i64),.c (.int .i64)] [.g tSSd,.v (.int .i64)] mixed es_add Try.func13 rfl rfl rfl (by kernel_rfl) (by kernel_rfl) f h vs hv
end Go.AL
