/-
  Layer 30 (sched): Wake's contract. By an AI agent.
-/
import Derived.Test.YtmdmmikpmhopkaaK18
set_option linter.unusedVariables false
set_option linter.unusedSimpArgs false
namespace Go.AL
open Go.Proofs
theorem wak_left {b l n p : Int} {x : Int} (hb0 : 0 ≤ b) (hb1 : b ≤ p) (hp : 1 ≤ p) (hp2 : p ≤ 1024) (hx0 : n < x) (hx1 : x ≤ n + p) (hn : 0 ≤ n) (hn1 : n ≤ 1099511627776) :
  (if IntKind.i64.wrap ((IntKind.i64.wrap (b * IntKind.i64.wrap (x - n))).tdiv p) < l then IntKind.i64.wrap ((IntKind.i64.wrap (b * IntKind.i64.wrap (x - n))).tdiv p) else l) = min l (b * (x - n) / p) := by
 have e1 : IntKind.i64.wrap (x - n) = x - n := i64_id (by omega) (by omega)
 have h0 : 0 ≤ b * (x - n) := Int.mul_nonneg hb0 (by omega)
 have h1 : b * (x - n) ≤ 1024 * 1024 := Int.le_trans (Int.mul_le_mul_of_nonneg_right (show b ≤ 1024 by omega) (by omega)) (Int.mul_le_mul_of_nonneg_left (show x - n ≤ 1024 by omega) (by omega))
 have e2 : IntKind.i64.wrap (b * (x - n)) = b * (x - n) := i64_id (by omega) (by omega)
 have e3 : (b * (x - n)).tdiv p = b * (x - n) / p := Int.tdiv_eq_ediv_of_nonneg h0
 have h2 : 0 ≤ b * (x - n) / p := Int.ediv_nonneg h0 (by omega)
 have h3 : b * (x - n) / p ≤ b * (x - n) := Int.ediv_le_self _ h0
 have e4 : IntKind.i64.wrap (b * (x - n) / p) = b * (x - n) / p := i64_id (by omega) (by omega)
 rw [e1,e2,e3,e4]
 generalize b * (x - n) / p = q
 split
 ·exact (Int.min_eq_right (by omega)).symm
 ·exact (Int.min_eq_left (by omega)).symm
theorem wak_pass (v p : Int) : (if v > p then v else p) = max p v := by
 split
 ·exact (Int.max_eq_right (by omega)).symm
 ·exact (Int.max_eq_left (by omega)).symm
theorem wak_both : ∀ a : SSd × Int,okD a.1 = true → P_wak a = true ∧ F_wak a = chgS a.1 a.2 (wakF a.1) := fun (s,id) h => by
 have h : okD s = true := h
 show P_wak (s,id) = true ∧ F_wak (s,id) = chgS s id (wakF s)
 cases hv : valS s with
 | false => simp only [P_wak,F_wak,chgS,hv,Bool.not_false,cond_true]; exact ⟨trivial,rfl⟩
 | true =>
  cases ho : decide (opnI id s.2.2 0 < 0) with
  | true => simp only [P_wak,F_wak,chgS,hv,ho,val_len hv,Bool.not_true,cond_true,cond_false,Bool.and_self]; exact ⟨trivial,rfl⟩
  | false =>
   obtain ⟨A,d,B,e1,e2,e3,e4,vd,hg,hs,ht,hd,k2,k3⟩ := chg_cases hv ho
   have hr := ((valS_iff s).1 hv).rng
   simp only [rngB,Bool.and_eq_true,decide_eq_true_eq] at hr
   rw [e2] at ho
   simp only [P_wak,F_wak,chgS,hv,e2,ho,val_len hv,h,hg,hs,ht,hd,k2,k3,Int.toNat_natCast,Bool.not_true,cond_true,cond_false,Bool.and_self,gtD_mid,st_mid,beqD,Bool.true_and,wakF,decide_eq_true (show ((0 : Int) = 0) from rfl)]
   clear hg hs ht hd e1
   obtain ⟨d1,d2,d3,d4,d5,d6,d7,d8,d9,d10,d11⟩ := d
   cases d5 with
   | false => exact ⟨rfl,rfl⟩
   | true =>
    cases hw : decide (d2 = 0) with
    | true =>
     simp only [vdiS,corB,rtB,dId,dW,dPer,dBud,dBlk,dDis,dRem,dDl,dLft,dPas,ups,hw,cond_true,Bool.and_eq_true,decide_eq_true_eq] at vd
     obtain ⟨q1,q2,q3,q4,q5,q6,q7,q8,q9,q10⟩ := vd
     have hp := perB_rng q5
     have e9 := wak_left (b := d4) (l := d9) (n := s.1) (p := d3) (x := d8) (by omega) (by omega) hp.1 hp.2 (by omega) (by omega) hr.1 hr.2.1
     simp only [wakD,dBlk,dW,dLft,dBud,dDl,dPer,hw,cond_true,cond_false,Bool.not_true,upT,upH,upS,gtD_mid,st_mid,e9]
     have hp0 : (d3 != 0) = true := by simp; omega
     exact ⟨hp0,rfl⟩
    | false =>
     simp only [wakD,dBlk,dW,dPas,hw,cond_true,cond_false,Bool.not_true,upT,upH,upS,gtD_mid,st_mid,wak_pass]
     exact ⟨trivial,rfl⟩
theorem wak_P : ∀ a : SSd × Int,(fun a : SSd × Int => okD a.1) a = true → P_wak a = true := fun a h => (wak_both a h).1
theorem wak_F : ∀ a : SSd × Int,(fun a : SSd × Int => okD a.1) a = true → F_wak a = (fun a : SSd × Int => chgS a.1 a.2 (wakF a.1)) a := fun a h => (wak_both a h).2
theorem wak_run : ∀ a,(fun a => okD a.1 : SSd × Int → Bool) a = true → ∃ f,M_wak f a = some ((fun a => chgS a.1 a.2 (wakF a.1) : SSd × Int → SSd × Int) a) := fun a h => by have h1 := wak_auto a (wak_P a h); rw [wak_F a h] at h1; exact h1
noncomputable def E_wak : Ent := ⟨25,[.g tSSd,.c (.int .i64)],[.g tSSd,.v (.int .i64)],fun a => (fun a => okD a.1 : SSd × Int → Bool) a,fun a => (fun a => chgS a.1 a.2 (wakF a.1) : SSd × Int → SSd × Int) a⟩
theorem E_wak_ok : E_wak.Ok Try.prog := fun a hp vs hv => (wak_run a hp).elim fun f h => fnX_ok (C := C_wak) (Lt := Lt_wak) (fn := Try.f25) (rs := [.cell 4 26,.tmp 5]) [.g tSSd,.c (.int .i64)] [.g tSSd,.v (.int .i64)] mixed es_wak Try.func25 rfl rfl rfl (by kernel_rfl) (by kernel_rfl) f h vs hv
end Go.AL
