/-
  Layer 16: where a new table goes. By an AI agent.
-/
import Derived.Test.YtcpdakiailaneaaV3
namespace Go.AL
open Go.Proofs
set_option linter.unusedVariables false
set_option linter.unusedSimpArgs false
noncomputable def C_ixp : Cfg := ⟨Try.prog, [E_map1], pmT [], 19, [], []⟩
theorem es_ixp : EsOk Try.prog [E_map1] [] := es_cons E_map1_ok (es_nil)
def Lt_ixp : Nat → LD := ldT [(0, ⟨[.rd 0 tSPT, .fn 1 59 [tSCp], .c 7 (.int .i64), .c 8 (.int .i64)], [], 0⟩)]
noncomputable def M_ixp (f : Nat) (a : (List (SPT)) × SCp) : Option (Int) := (runX (C_ixp) Lt_ixp (Kret Try.prog [.tmp 4] [.v (.int .i64)]) f [.code (bodyOf Try.f58)] (initX [.rd tSPT, .fn 59 [tSCp]] a) : Option (ResT [.v (.int .i64)]))
noncomputable def L_ixp_0 (f : Nat) (x : (List (SPT)) × SCp × Int × Int) : Option (Int) := (runX (C_ixp) Lt_ixp (Kret Try.prog [.tmp 4] [.v (.int .i64)]) f (headOf Try.f58 0) ((Lt_ixp 0).mk' x) : Option (ResT [.v (.int .i64)]))
theorem M_ixp_eq (f : Nat) (s : List (SPT)) (pf : SCp) : M_ixp (f + 1) (s, pf) =
    L_ixp_0 f (s, pf, (↑s.length : Int), 0) := by kernel_rfl
theorem L_ixp_0_eq (f : Nat) (s : List (SPT)) (f0 : SCp) (x7 : Int) (x8 : Int) : L_ixp_0 (f + 1) (s, f0, x7, x8) =
    bif decide (x8 < x7) then bif decide (0 ≤ x8) && decide (x8 < (↑s.length : Int)) then bif decide ((s.getD x8.toNat (0, 0, 0, [])).1 > f0.2.1) then some x8 else L_ixp_0 f (s, f0, x7, IntKind.i64.wrap (x8 + 1)) else none else some (-1) := by kernel_rfl
noncomputable def F_ixp_0 : List (SPT) → ((List (SPT)) × SCp × Int × Nat) → Int
  | [], (s, f0, x7, x8) => -1
  | uu :: rest, (s, f0, x7, x8) => bif decide (uu.1 > f0.2.1) then (↑x8 : Int) else F_ixp_0 rest (s, f0, x7, x8 + 1)
noncomputable def P_ixp_0 : List (SPT) → ((List (SPT)) × SCp × Int × Nat) → Bool
  | [], (s, f0, x7, x8) => true
  | uu :: rest, (s, f0, x7, x8) => bif decide (uu.1 > f0.2.1) then true else P_ixp_0 rest (s, f0, x7, x8 + 1)
theorem A_ixp_0 : ∀ (rest : List (SPT)) (s : List (SPT)) (f0 : SCp) (x7 : Int) (x8 : Nat) (hd : s.drop x8 = rest) (hn : x7 = ((s.length : Nat) : Int)) (hl : s.length ≤ 1099511627776), Rns (fun f => L_ixp_0 f (s, f0, x7, ((x8 : Nat) : Int))) (P_ixp_0 rest (s, f0, x7, x8)) (F_ixp_0 rest (s, f0, x7, x8))
  | [], s, f0, x7, x8, hd, hn, hl => ev_step (T := fun f => some (-1)) (fun f => (L_ixp_0_eq f _ _ _ _).trans (by simp only [ge_decn hn (drop_ge hd), ge0, Bool.and_self, Bool.true_and, cond_true, cond_false, List.length_set] <;> rfl)) ev_some
  | uu :: rest, s, f0, x7, x8, hd, hn, hl => ev_step (T := fun f => bif decide (uu.1 > f0.2.1) then some (↑x8 : Int) else L_ixp_0 f (s, f0, x7, (↑(x8 + 1) : Int))) (fun f => (L_ixp_0_eq f _ _ _ _).trans (by simp only [lt_decn hn (drop_lt hd), lt_dec (drop_lt hd), drop_get hd, wrap_succ (drop_lt hd) hl, getD_set (drop_lt hd), ge0, Bool.and_self, Bool.true_and, cond_true, cond_false, List.length_set] <;> rfl)) (ev_bif ev_some (A_ixp_0 rest _ _ _ _ (by first | exact drop_succ hd | exact drop_set hd | exact drop_setS (drop_set hd)) (by first | exact hn | simpa using hn) (by first | exact hl | simpa using hl)))
noncomputable def F_ixp : ((List (SPT)) × SCp) → Int
  | (s, pf) => F_ixp_0 s (s, pf, (↑s.length : Int), 0)
noncomputable def P_ixp : ((List (SPT)) × SCp) → Bool
  | (s, pf) => decide (s.length ≤ 1099511627776) && P_ixp_0 s (s, pf, (↑s.length : Int), 0)
theorem ixp_auto : ∀ a : (List (SPT)) × SCp, Rns (fun f => M_ixp f a) (P_ixp a) (F_ixp a)
  | (s, pf) => ev_step (fun f => M_ixp_eq f _ _) (ev_and fun hh => A_ixp_0 _ _ _ _ _ rfl (by first | rfl | simp) (of_decide_eq_true hh))
theorem ixp_0 (l : List SPT) (b : SCp) (x : Int) : ∀ (r : List SPT) (k : Nat), F_ixp_0 r (l, b, x, k) = findI (fun t => decide (t.1 > b.2.1)) r k ∧ P_ixp_0 r (l, b, x, k) = true
  | [], k => ⟨rfl, rfl⟩
  | u :: r, k => by
    obtain ⟨i1, i2⟩ := ixp_0 l b x r (k + 1)
    simp only [F_ixp_0, P_ixp_0, findI, i1, i2]
    exact ⟨rfl, by cases decide (u.1 > b.2.1) <;> rfl⟩
theorem ixp_P : ∀ a : List SPT × SCp, len40n a.1 = true → P_ixp a = true := fun a h => by simp only [P_ixp, (ixp_0 _ _ _ _ _).2, Bool.and_true]; exact h
theorem ixp_F : ∀ a : List SPT × SCp, len40n a.1 = true → F_ixp a = (fun a : List SPT × SCp => findI (fun t => decide (t.1 > a.2.2.1)) a.1 0) a := fun a h => by simp only [F_ixp, (ixp_0 _ _ _ _ _).1]; rfl
theorem ixp_run : ∀ a, (fun a => len40n a.1 : (List (SPT)) × SCp → Bool) a = true → ∃ f, M_ixp f a = some ((fun a => findI (fun t => decide (t.1 > a.2.2.1)) a.1 0 : (List (SPT)) × SCp → Int) a) := fun a h => by have h1 := ixp_auto a (ixp_P a h); rw [ixp_F a h] at h1; exact h1
noncomputable def E_ixp : Ent := ⟨58, [.rd tSPT, .fn 59 [tSCp]], [.v (.int .i64)], fun a => (fun a => len40n a.1 : (List (SPT)) × SCp → Bool) a, fun a => (fun a => findI (fun t => decide (t.1 > a.2.2.1)) a.1 0 : (List (SPT)) × SCp → Int) a⟩
theorem E_ixp_ok : E_ixp.Ok Try.prog := fun a hp vs hv => (ixp_run a hp).elim fun f h => fnX_ok (C := C_ixp) (Lt := Lt_ixp) (fn := Try.f58) (rs := [.tmp 4]) [.rd tSPT, .fn 59 [tSCp]] [.v (.int .i64)] mixed es_ixp Try.func58 rfl rfl rfl (by kernel_rfl) (by kernel_rfl) f h vs hv
end Go.AL
