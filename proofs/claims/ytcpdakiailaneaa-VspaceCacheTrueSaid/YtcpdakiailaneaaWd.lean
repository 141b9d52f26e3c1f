/-
  Layer 16: walks, Sync and caches: models. By an AI agent.
-/
import Derived.Test.YtcpdakiailaneaaV5
import Derived.Test.YtcpdakiailaneaaVe
import Derived.Test.YtcpdakiailaneaaV3
namespace Go.AL
open Go.Proofs
set_option linter.unusedVariables false
set_option linter.unusedSimpArgs false
theorem ctr_P : ∀ t : STr, (fun t : STr => len40n t.2.2.2.2.1 && len40n t.2.2.2.2.2) t = true → P_ctr t = true := fun t h => h
theorem ctr_F : ∀ t : STr, (fun t : STr => len40n t.2.2.2.2.1 && len40n t.2.2.2.2.2) t = true → F_ctr t = (fun t => t) t := fun t h => rfl
theorem ctr_run : ∀ a, (fun t : STr => len40n t.2.2.2.2.1 && len40n t.2.2.2.2.2 : STr → Bool) a = true → ∃ f, M_ctr f a = some ((fun t => t : STr → STr) a) := fun a h => by have h1 := ctr_auto a (ctr_P a h); rw [ctr_F a h] at h1; exact h1
noncomputable def E_ctr : Ent := ⟨70, [.g tSTr], [.g tSTr], fun a => (fun t : STr => len40n t.2.2.2.2.1 && len40n t.2.2.2.2.2 : STr → Bool) a, fun a => (fun t => t : STr → STr) a⟩
theorem E_ctr_ok : E_ctr.Ok Try.prog := fun a hp vs hv => (ctr_run a hp).elim fun f h => fnX_ok (C := C_ctr) (Lt := Lt_ctr) (fn := Try.f70) (rs := [.cell 2 45]) [.g tSTr] [.g tSTr] mixed es_ctr Try.func70 rfl rfl rfl (by kernel_rfl) (by kernel_rfl) f h vs hv
instance decSTr : DecidableEq STr := @instDecidableEqProd _ _ (inferInstanceAs (DecidableEq Int)) (@instDecidableEqProd _ _ (inferInstanceAs (DecidableEq Int)) (@instDecidableEqProd _ _ (inferInstanceAs (DecidableEq Int)) (@instDecidableEqProd _ _ (inferInstanceAs (DecidableEq Int)) (@instDecidableEqProd _ _ (inferInstanceAs (DecidableEq (List (Int × Int × Int)))) (inferInstanceAs (DecidableEq (List Int)))))))
def strPre (a : STr × STr) : Bool := len40n a.1.2.2.2.2.1 && len40n a.1.2.2.2.2.2
theorem str_both : ∀ a : STr × STr, strPre a = true → P_str a = true ∧ F_str a = decide (a.1 = a.2) := by
  rintro ⟨⟨a1, a2, a3, a4, a5, a6⟩, ⟨b1, b2, b3, b4, b5, b6⟩⟩ h
  obtain ⟨h1, h2⟩ := Bool.and_eq_true_iff.1 h
  have h1 : len40n a5 = true := h1
  have h2 : len40n a6 = true := h2
  simp only [P_str, F_str, h1, h2, beqI]
  by_cases e : a1 = b1 ∧ a2 = b2 ∧ a3 = b3 ∧ a4 = b4 ∧ a5 = b5 ∧ a6 = b6
  · obtain ⟨rfl, rfl, rfl, rfl, rfl, rfl⟩ := e
    simp
  · have e2 : ¬ ((a1, a2, a3, a4, a5, a6) : STr) = (b1, b2, b3, b4, b5, b6) := fun e' => e (by
      simp only [Prod.mk.injEq] at e'
      exact e')
    rw [decide_eq_false e2]
    by_cases c1 : a1 = b1 <;> by_cases c2 : a2 = b2 <;> by_cases c3 : a3 = b3 <;> by_cases c4 : a4 = b4 <;> by_cases c5 : a5 = b5 <;> by_cases c6 : a6 = b6 <;> simp_all
theorem str_P : ∀ a : STr × STr, strPre a = true → P_str a = true := fun a h => (str_both a h).1
theorem str_F : ∀ a : STr × STr, strPre a = true → F_str a = (fun a => decide (a.1 = a.2)) a := fun a h => (str_both a h).2
theorem str_run : ∀ a, (strPre : STr × STr → Bool) a = true → ∃ f, M_str f a = some ((fun a => decide (a.1 = a.2) : STr × STr → Bool) a) := fun a h => by have h1 := str_auto a (str_P a h); rw [str_F a h] at h1; exact h1
noncomputable def E_str : Ent := ⟨39, [.g tSTr, .g tSTr], [.v (.bool)], fun a => (strPre : STr × STr → Bool) a, fun a => (fun a => decide (a.1 = a.2) : STr × STr → Bool) a⟩
theorem E_str_ok : E_str.Ok Try.prog := fun a hp vs hv => (str_run a hp).elim fun f h => fnX_ok (C := C_str) (Lt := Lt_str) (fn := Try.f39) (rs := [.tmp 4]) [.g tSTr, .g tSTr] [.v (.bool)] mixed es_str Try.func39 rfl rfl rfl (by kernel_rfl) (by kernel_rfl) f h vs hv
def taS (ts : List SPT) (b : Int) : SPT := ts.getD (ftS ts b).toNat (0, 0, 0, [])
def faS (ts : List SPT) (w addr lv b : Int) : Int := fmS (taS ts b).2.2.2 (ixS (w, lv, addr))
def maS (ts : List SPT) (w addr lv b : Int) : SMp := List.getD (taS ts b).2.2.2 (faS ts w addr lv b).toNat (0, 0, 0, 0, 0, 0)
section
variable {ρ : Type} {A B : Nat → Option ρ} {c p : Bool} {x : ρ}
theorem evx_chk (ha : Rns A p x) : Rns (fun f => bif c then A f else B f) (c && p) x := by
  cases c
  · intro h; cases h
  · exact ha
theorem evx_chk1 (ha : Rns A true x) : Rns (fun f => bif c then A f else B f) c x := by
  cases c
  · intro h; cases h
  · exact ha
end
noncomputable def C_wlk : Cfg := ⟨Try.prog, [E_vval, E_geom, E_vcap, E_pva, E_find, E_pix, E_mapg], pmT [(14, ([(0, []), (1, []), (2, []), (3, []), (4, []), (5, []), (6, []), (7, []), (8, []), (9, []), (10, []), (11, []), (12, []), (13, []), (14, []), (15, []), (16, []), (17, []), (18, []), (19, []), (20, [])], [(72, 92)])), (16, ([(0, []), (1, []), (2, []), (3, []), (4, []), (5, []), (6, []), (7, []), (8, []), (9, []), (10, []), (11, []), (12, []), (13, []), (14, [])], [(16, 17), (94, 106)])), (22, ([(0, []), (1, []), (4, []), (2, [5]), (3, [5]), (5, []), (6, []), (7, [])], [(131, 136)]))], 140, [], []⟩
theorem es_wlk : EsOk Try.prog [E_vval, E_geom, E_vcap, E_pva, E_find, E_pix, E_mapg] [] := es_cons E_vval_ok (es_cons E_geom_ok (es_cons E_vcap_ok (es_cons E_pva_ok (es_cons E_find_ok (es_cons E_pix_ok (es_cons E_mapg_ok (es_nil)))))))
def Lt_wlk : Nat → LD := ldT [(0, ⟨[], [(0, 0)], 0⟩)]
noncomputable def M_wlk (f : Nat) (a : (List (SPT)) × SCp × Int) : Option (STr × Int) := (runX (C_wlk) Lt_wlk (Kret Try.prog [.cell 6 45, .tmp 7] [.g tSTr, .v (.int .i64)]) f [.code (bodyOf Try.f21)] (initX [.rd tSPT, .g tSCp, .c (.int .i64)] a) : Option (ResT [.g tSTr, .v (.int .i64)]))
theorem M_wlk_eq (f : Nat) (ts : List (SPT)) (root : SCp) (addr : Int) : M_wlk (f + 1) (ts, root, addr) =
    bif okM ts then bif !tabsB ts then some ((0, 0, 0, 0, [], []), 1) else bif !vcapB root then some ((0, 0, 0, 0, [], []), 5) else bif root.1 != 3 then some ((0, 0, 0, 0, [], []), 5) else bif root.2.2.2.2.2.1 != IntKind.i64.wrap ((geoS root.2.2.2.2.1).1 - 1) then some ((0, 0, 0, 0, [], []), 5) else bif !vaS (root.2.2.2.2.1, addr) then some ((0, 0, 0, 0, [], []), 6) else bif decide (root.2.2.2.2.2.1 ≥ 0) then bif len40n ts then bif !decide (ftS ts root.2.1 ≥ 0) then some ((0, 0, 0, 0, [], []), 13) else bif decide (0 ≤ ftS ts root.2.1) && decide (ftS ts root.2.1 < (↑ts.length : Int)) then bif (taS ts root.2.1).2.1 != root.2.2.2.2.1 then some ((0, 0, 0, 0, [], []), 13) else bif decide (0 ≤ ftS ts root.2.1) && decide (ftS ts root.2.1 < (↑ts.length : Int)) then bif (taS ts root.2.1).2.2.1 != root.2.2.2.2.2.1 then some ((0, 0, 0, 0, [], []), 13) else bif decide (0 ≤ ftS ts root.2.1) && decide (ftS ts root.2.1 < (↑ts.length : Int)) then bif len40n (taS ts root.2.1).2.2.2 then bif !decide (faS ts root.2.2.2.2.1 addr root.2.2.2.2.2.1 root.2.1 ≥ 0) then some ((0, 0, 0, 0, [], []), 13) else bif decide (0 ≤ ftS ts root.2.1) && decide (ftS ts root.2.1 < (↑ts.length : Int)) then bif decide (0 ≤ faS ts root.2.2.2.2.1 addr root.2.2.2.2.2.1 root.2.1) && decide (faS ts root.2.2.2.2.1 addr root.2.2.2.2.2.1 root.2.1 < (↑(List.length (taS ts root.2.1).2.2.2) : Int)) then bif decide (IntKind.i64.wrap (root.2.2.2.2.2.1 - 1) ≥ 0) then bif len40n ts then bif !decide (ftS ts (maS ts root.2.2.2.2.1 addr root.2.2.2.2.2.1 root.2.1).2.1 ≥ 0) then some ((0, 0, 0, 0, [], []), 13) else bif decide (0 ≤ ftS ts (maS ts root.2.2.2.2.1 addr root.2.2.2.2.2.1 root.2.1).2.1) && decide (ftS ts (maS ts root.2.2.2.2.1 addr root.2.2.2.2.2.1 root.2.1).2.1 < (↑ts.length : Int)) then bif (taS ts (maS ts root.2.2.2.2.1 addr root.2.2.2.2.2.1 root.2.1).2.1).2.1 != root.2.2.2.2.1 then some ((0, 0, 0, 0, [], []), 13) else bif decide (0 ≤ ftS ts (maS ts root.2.2.2.2.1 addr root.2.2.2.2.2.1 root.2.1).2.1) && decide (ftS ts (maS ts root.2.2.2.2.1 addr root.2.2.2.2.2.1 root.2.1).2.1 < (↑ts.length : Int)) then bif (taS ts (maS ts root.2.2.2.2.1 addr root.2.2.2.2.2.1 root.2.1).2.1).2.2.1 != IntKind.i64.wrap (root.2.2.2.2.2.1 - 1) then some ((0, 0, 0, 0, [], []), 13) else bif decide (0 ≤ ftS ts (maS ts root.2.2.2.2.1 addr root.2.2.2.2.2.1 root.2.1).2.1) && decide (ftS ts (maS ts root.2.2.2.2.1 addr root.2.2.2.2.2.1 root.2.1).2.1 < (↑ts.length : Int)) then bif len40n (taS ts (maS ts root.2.2.2.2.1 addr root.2.2.2.2.2.1 root.2.1).2.1).2.2.2 then bif !decide (faS ts root.2.2.2.2.1 addr (IntKind.i64.wrap (root.2.2.2.2.2.1 - 1)) (maS ts root.2.2.2.2.1 addr root.2.2.2.2.2.1 root.2.1).2.1 ≥ 0) then some ((0, 0, 0, 0, [], []), 13) else bif decide (0 ≤ ftS ts (maS ts root.2.2.2.2.1 addr root.2.2.2.2.2.1 root.2.1).2.1) && decide (ftS ts (maS ts root.2.2.2.2.1 addr root.2.2.2.2.2.1 root.2.1).2.1 < (↑ts.length : Int)) then bif decide (0 ≤ faS ts root.2.2.2.2.1 addr (IntKind.i64.wrap (root.2.2.2.2.2.1 - 1)) (maS ts root.2.2.2.2.1 addr root.2.2.2.2.2.1 root.2.1).2.1) && decide (faS ts root.2.2.2.2.1 addr (IntKind.i64.wrap (root.2.2.2.2.2.1 - 1)) (maS ts root.2.2.2.2.1 addr root.2.2.2.2.2.1 root.2.1).2.1 < (↑(List.length (taS ts (maS ts root.2.2.2.2.1 addr root.2.2.2.2.2.1 root.2.1).2.1).2.2.2) : Int)) then bif decide (IntKind.i64.wrap (IntKind.i64.wrap (root.2.2.2.2.2.1 - 1) - 1) ≥ 0) then bif len40n ts then bif !decide (ftS ts (maS ts root.2.2.2.2.1 addr (IntKind.i64.wrap (root.2.2.2.2.2.1 - 1)) (maS ts root.2.2.2.2.1 addr root.2.2.2.2.2.1 root.2.1).2.1).2.1 ≥ 0) then some ((0, 0, 0, 0, [], []), 13) else bif decide (0 ≤ ftS ts (maS ts root.2.2.2.2.1 addr (IntKind.i64.wrap (root.2.2.2.2.2.1 - 1)) (maS ts root.2.2.2.2.1 addr root.2.2.2.2.2.1 root.2.1).2.1).2.1) && decide (ftS ts (maS ts root.2.2.2.2.1 addr (IntKind.i64.wrap (root.2.2.2.2.2.1 - 1)) (maS ts root.2.2.2.2.1 addr root.2.2.2.2.2.1 root.2.1).2.1).2.1 < (↑ts.length : Int)) then bif (taS ts (maS ts root.2.2.2.2.1 addr (IntKind.i64.wrap (root.2.2.2.2.2.1 - 1)) (maS ts root.2.2.2.2.1 addr root.2.2.2.2.2.1 root.2.1).2.1).2.1).2.1 != root.2.2.2.2.1 then some ((0, 0, 0, 0, [], []), 13) else bif decide (0 ≤ ftS ts (maS ts root.2.2.2.2.1 addr (IntKind.i64.wrap (root.2.2.2.2.2.1 - 1)) (maS ts root.2.2.2.2.1 addr root.2.2.2.2.2.1 root.2.1).2.1).2.1) && decide (ftS ts (maS ts root.2.2.2.2.1 addr (IntKind.i64.wrap (root.2.2.2.2.2.1 - 1)) (maS ts root.2.2.2.2.1 addr root.2.2.2.2.2.1 root.2.1).2.1).2.1 < (↑ts.length : Int)) then bif (taS ts (maS ts root.2.2.2.2.1 addr (IntKind.i64.wrap (root.2.2.2.2.2.1 - 1)) (maS ts root.2.2.2.2.1 addr root.2.2.2.2.2.1 root.2.1).2.1).2.1).2.2.1 != IntKind.i64.wrap (IntKind.i64.wrap (root.2.2.2.2.2.1 - 1) - 1) then some ((0, 0, 0, 0, [], []), 13) else bif decide (0 ≤ ftS ts (maS ts root.2.2.2.2.1 addr (IntKind.i64.wrap (root.2.2.2.2.2.1 - 1)) (maS ts root.2.2.2.2.1 addr root.2.2.2.2.2.1 root.2.1).2.1).2.1) && decide (ftS ts (maS ts root.2.2.2.2.1 addr (IntKind.i64.wrap (root.2.2.2.2.2.1 - 1)) (maS ts root.2.2.2.2.1 addr root.2.2.2.2.2.1 root.2.1).2.1).2.1 < (↑ts.length : Int)) then bif len40n (taS ts (maS ts root.2.2.2.2.1 addr (IntKind.i64.wrap (root.2.2.2.2.2.1 - 1)) (maS ts root.2.2.2.2.1 addr root.2.2.2.2.2.1 root.2.1).2.1).2.1).2.2.2 then bif !decide (faS ts root.2.2.2.2.1 addr (IntKind.i64.wrap (IntKind.i64.wrap (root.2.2.2.2.2.1 - 1) - 1)) (maS ts root.2.2.2.2.1 addr (IntKind.i64.wrap (root.2.2.2.2.2.1 - 1)) (maS ts root.2.2.2.2.1 addr root.2.2.2.2.2.1 root.2.1).2.1).2.1 ≥ 0) then some ((0, 0, 0, 0, [], []), 13) else bif decide (0 ≤ ftS ts (maS ts root.2.2.2.2.1 addr (IntKind.i64.wrap (root.2.2.2.2.2.1 - 1)) (maS ts root.2.2.2.2.1 addr root.2.2.2.2.2.1 root.2.1).2.1).2.1) && decide (ftS ts (maS ts root.2.2.2.2.1 addr (IntKind.i64.wrap (root.2.2.2.2.2.1 - 1)) (maS ts root.2.2.2.2.1 addr root.2.2.2.2.2.1 root.2.1).2.1).2.1 < (↑ts.length : Int)) then bif decide (0 ≤ faS ts root.2.2.2.2.1 addr (IntKind.i64.wrap (IntKind.i64.wrap (root.2.2.2.2.2.1 - 1) - 1)) (maS ts root.2.2.2.2.1 addr (IntKind.i64.wrap (root.2.2.2.2.2.1 - 1)) (maS ts root.2.2.2.2.1 addr root.2.2.2.2.2.1 root.2.1).2.1).2.1) && decide (faS ts root.2.2.2.2.1 addr (IntKind.i64.wrap (IntKind.i64.wrap (root.2.2.2.2.2.1 - 1) - 1)) (maS ts root.2.2.2.2.1 addr (IntKind.i64.wrap (root.2.2.2.2.2.1 - 1)) (maS ts root.2.2.2.2.1 addr root.2.2.2.2.2.1 root.2.1).2.1).2.1 < (↑(List.length (taS ts (maS ts root.2.2.2.2.1 addr (IntKind.i64.wrap (root.2.2.2.2.2.1 - 1)) (maS ts root.2.2.2.2.1 addr root.2.2.2.2.2.1 root.2.1).2.1).2.1).2.2.2) : Int)) then bif decide (IntKind.i64.wrap (IntKind.i64.wrap (IntKind.i64.wrap (root.2.2.2.2.2.1 - 1) - 1) - 1) ≥ 0) then bif len40n ts then bif !decide (ftS ts (maS ts root.2.2.2.2.1 addr (IntKind.i64.wrap (IntKind.i64.wrap (root.2.2.2.2.2.1 - 1) - 1)) (maS ts root.2.2.2.2.1 addr (IntKind.i64.wrap (root.2.2.2.2.2.1 - 1)) (maS ts root.2.2.2.2.1 addr root.2.2.2.2.2.1 root.2.1).2.1).2.1).2.1 ≥ 0) then some ((0, 0, 0, 0, [], []), 13) else bif decide (0 ≤ ftS ts (maS ts root.2.2.2.2.1 addr (IntKind.i64.wrap (IntKind.i64.wrap (root.2.2.2.2.2.1 - 1) - 1)) (maS ts root.2.2.2.2.1 addr (IntKind.i64.wrap (root.2.2.2.2.2.1 - 1)) (maS ts root.2.2.2.2.1 addr root.2.2.2.2.2.1 root.2.1).2.1).2.1).2.1) && decide (ftS ts (maS ts root.2.2.2.2.1 addr (IntKind.i64.wrap (IntKind.i64.wrap (root.2.2.2.2.2.1 - 1) - 1)) (maS ts root.2.2.2.2.1 addr (IntKind.i64.wrap (root.2.2.2.2.2.1 - 1)) (maS ts root.2.2.2.2.1 addr root.2.2.2.2.2.1 root.2.1).2.1).2.1).2.1 < (↑ts.length : Int)) then bif (taS ts (maS ts root.2.2.2.2.1 addr (IntKind.i64.wrap (IntKind.i64.wrap (root.2.2.2.2.2.1 - 1) - 1)) (maS ts root.2.2.2.2.1 addr (IntKind.i64.wrap (root.2.2.2.2.2.1 - 1)) (maS ts root.2.2.2.2.1 addr root.2.2.2.2.2.1 root.2.1).2.1).2.1).2.1).2.1 != root.2.2.2.2.1 then some ((0, 0, 0, 0, [], []), 13) else bif decide (0 ≤ ftS ts (maS ts root.2.2.2.2.1 addr (IntKind.i64.wrap (IntKind.i64.wrap (root.2.2.2.2.2.1 - 1) - 1)) (maS ts root.2.2.2.2.1 addr (IntKind.i64.wrap (root.2.2.2.2.2.1 - 1)) (maS ts root.2.2.2.2.1 addr root.2.2.2.2.2.1 root.2.1).2.1).2.1).2.1) && decide (ftS ts (maS ts root.2.2.2.2.1 addr (IntKind.i64.wrap (IntKind.i64.wrap (root.2.2.2.2.2.1 - 1) - 1)) (maS ts root.2.2.2.2.1 addr (IntKind.i64.wrap (root.2.2.2.2.2.1 - 1)) (maS ts root.2.2.2.2.1 addr root.2.2.2.2.2.1 root.2.1).2.1).2.1).2.1 < (↑ts.length : Int)) then bif (taS ts (maS ts root.2.2.2.2.1 addr (IntKind.i64.wrap (IntKind.i64.wrap (root.2.2.2.2.2.1 - 1) - 1)) (maS ts root.2.2.2.2.1 addr (IntKind.i64.wrap (root.2.2.2.2.2.1 - 1)) (maS ts root.2.2.2.2.1 addr root.2.2.2.2.2.1 root.2.1).2.1).2.1).2.1).2.2.1 != IntKind.i64.wrap (IntKind.i64.wrap (IntKind.i64.wrap (root.2.2.2.2.2.1 - 1) - 1) - 1) then some ((0, 0, 0, 0, [], []), 13) else bif decide (0 ≤ ftS ts (maS ts root.2.2.2.2.1 addr (IntKind.i64.wrap (IntKind.i64.wrap (root.2.2.2.2.2.1 - 1) - 1)) (maS ts root.2.2.2.2.1 addr (IntKind.i64.wrap (root.2.2.2.2.2.1 - 1)) (maS ts root.2.2.2.2.1 addr root.2.2.2.2.2.1 root.2.1).2.1).2.1).2.1) && decide (ftS ts (maS ts root.2.2.2.2.1 addr (IntKind.i64.wrap (IntKind.i64.wrap (root.2.2.2.2.2.1 - 1) - 1)) (maS ts root.2.2.2.2.1 addr (IntKind.i64.wrap (root.2.2.2.2.2.1 - 1)) (maS ts root.2.2.2.2.1 addr root.2.2.2.2.2.1 root.2.1).2.1).2.1).2.1 < (↑ts.length : Int)) then bif len40n (taS ts (maS ts root.2.2.2.2.1 addr (IntKind.i64.wrap (IntKind.i64.wrap (root.2.2.2.2.2.1 - 1) - 1)) (maS ts root.2.2.2.2.1 addr (IntKind.i64.wrap (root.2.2.2.2.2.1 - 1)) (maS ts root.2.2.2.2.1 addr root.2.2.2.2.2.1 root.2.1).2.1).2.1).2.1).2.2.2 then bif !decide (faS ts root.2.2.2.2.1 addr (IntKind.i64.wrap (IntKind.i64.wrap (IntKind.i64.wrap (root.2.2.2.2.2.1 - 1) - 1) - 1)) (maS ts root.2.2.2.2.1 addr (IntKind.i64.wrap (IntKind.i64.wrap (root.2.2.2.2.2.1 - 1) - 1)) (maS ts root.2.2.2.2.1 addr (IntKind.i64.wrap (root.2.2.2.2.2.1 - 1)) (maS ts root.2.2.2.2.1 addr root.2.2.2.2.2.1 root.2.1).2.1).2.1).2.1 ≥ 0) then some ((0, 0, 0, 0, [], []), 13) else bif decide (0 ≤ ftS ts (maS ts root.2.2.2.2.1 addr (IntKind.i64.wrap (IntKind.i64.wrap (root.2.2.2.2.2.1 - 1) - 1)) (maS ts root.2.2.2.2.1 addr (IntKind.i64.wrap (root.2.2.2.2.2.1 - 1)) (maS ts root.2.2.2.2.1 addr root.2.2.2.2.2.1 root.2.1).2.1).2.1).2.1) && decide (ftS ts (maS ts root.2.2.2.2.1 addr (IntKind.i64.wrap (IntKind.i64.wrap (root.2.2.2.2.2.1 - 1) - 1)) (maS ts root.2.2.2.2.1 addr (IntKind.i64.wrap (root.2.2.2.2.2.1 - 1)) (maS ts root.2.2.2.2.1 addr root.2.2.2.2.2.1 root.2.1).2.1).2.1).2.1 < (↑ts.length : Int)) then bif decide (0 ≤ faS ts root.2.2.2.2.1 addr (IntKind.i64.wrap (IntKind.i64.wrap (IntKind.i64.wrap (root.2.2.2.2.2.1 - 1) - 1) - 1)) (maS ts root.2.2.2.2.1 addr (IntKind.i64.wrap (IntKind.i64.wrap (root.2.2.2.2.2.1 - 1) - 1)) (maS ts root.2.2.2.2.1 addr (IntKind.i64.wrap (root.2.2.2.2.2.1 - 1)) (maS ts root.2.2.2.2.1 addr root.2.2.2.2.2.1 root.2.1).2.1).2.1).2.1) && decide (faS ts root.2.2.2.2.1 addr (IntKind.i64.wrap (IntKind.i64.wrap (IntKind.i64.wrap (root.2.2.2.2.2.1 - 1) - 1) - 1)) (maS ts root.2.2.2.2.1 addr (IntKind.i64.wrap (IntKind.i64.wrap (root.2.2.2.2.2.1 - 1) - 1)) (maS ts root.2.2.2.2.1 addr (IntKind.i64.wrap (root.2.2.2.2.2.1 - 1)) (maS ts root.2.2.2.2.1 addr root.2.2.2.2.2.1 root.2.1).2.1).2.1).2.1 < (↑(List.length (taS ts (maS ts root.2.2.2.2.1 addr (IntKind.i64.wrap (IntKind.i64.wrap (root.2.2.2.2.2.1 - 1) - 1)) (maS ts root.2.2.2.2.1 addr (IntKind.i64.wrap (root.2.2.2.2.2.1 - 1)) (maS ts root.2.2.2.2.1 addr root.2.2.2.2.2.1 root.2.1).2.1).2.1).2.1).2.2.2) : Int)) then none else none else none else none else none else none else none else none else some ((root.2.1, addr.fdiv (2 ^ min (Int.toNat 12) IntKind.i64.bits), (maS ts root.2.2.2.2.1 addr (IntKind.i64.wrap (IntKind.i64.wrap (root.2.2.2.2.2.1 - 1) - 1)) (maS ts root.2.2.2.2.1 addr (IntKind.i64.wrap (root.2.2.2.2.2.1 - 1)) (maS ts root.2.2.2.2.1 addr root.2.2.2.2.2.1 root.2.1).2.1).2.1).2.1, (maS ts root.2.2.2.2.1 addr (IntKind.i64.wrap (IntKind.i64.wrap (root.2.2.2.2.2.1 - 1) - 1)) (maS ts root.2.2.2.2.1 addr (IntKind.i64.wrap (root.2.2.2.2.2.1 - 1)) (maS ts root.2.2.2.2.1 addr root.2.2.2.2.2.1 root.2.1).2.1).2.1).2.2.1, [(maS ts root.2.2.2.2.1 addr root.2.2.2.2.2.1 root.2.1).2.2.2] ++ [(maS ts root.2.2.2.2.1 addr (IntKind.i64.wrap (root.2.2.2.2.2.1 - 1)) (maS ts root.2.2.2.2.1 addr root.2.2.2.2.2.1 root.2.1).2.1).2.2.2] ++ [(maS ts root.2.2.2.2.1 addr (IntKind.i64.wrap (IntKind.i64.wrap (root.2.2.2.2.2.1 - 1) - 1)) (maS ts root.2.2.2.2.1 addr (IntKind.i64.wrap (root.2.2.2.2.2.1 - 1)) (maS ts root.2.2.2.2.1 addr root.2.2.2.2.2.1 root.2.1).2.1).2.1).2.2.2], [root.2.1] ++ [(maS ts root.2.2.2.2.1 addr root.2.2.2.2.2.1 root.2.1).2.1] ++ [(maS ts root.2.2.2.2.1 addr (IntKind.i64.wrap (root.2.2.2.2.2.1 - 1)) (maS ts root.2.2.2.2.1 addr root.2.2.2.2.2.1 root.2.1).2.1).2.1]), 0) else none else none else none else none else none else none else none else some ((root.2.1, addr.fdiv (2 ^ min (Int.toNat 12) IntKind.i64.bits), (maS ts root.2.2.2.2.1 addr (IntKind.i64.wrap (root.2.2.2.2.2.1 - 1)) (maS ts root.2.2.2.2.1 addr root.2.2.2.2.2.1 root.2.1).2.1).2.1, (maS ts root.2.2.2.2.1 addr (IntKind.i64.wrap (root.2.2.2.2.2.1 - 1)) (maS ts root.2.2.2.2.1 addr root.2.2.2.2.2.1 root.2.1).2.1).2.2.1, [(maS ts root.2.2.2.2.1 addr root.2.2.2.2.2.1 root.2.1).2.2.2] ++ [(maS ts root.2.2.2.2.1 addr (IntKind.i64.wrap (root.2.2.2.2.2.1 - 1)) (maS ts root.2.2.2.2.1 addr root.2.2.2.2.2.1 root.2.1).2.1).2.2.2], [root.2.1] ++ [(maS ts root.2.2.2.2.1 addr root.2.2.2.2.2.1 root.2.1).2.1]), 0) else none else none else none else none else none else none else none else some ((root.2.1, addr.fdiv (2 ^ min (Int.toNat 12) IntKind.i64.bits), (maS ts root.2.2.2.2.1 addr root.2.2.2.2.2.1 root.2.1).2.1, (maS ts root.2.2.2.2.1 addr root.2.2.2.2.2.1 root.2.1).2.2.1, [(maS ts root.2.2.2.2.1 addr root.2.2.2.2.2.1 root.2.1).2.2.2], [root.2.1]), 0) else none else none else none else none else none else none else none else some ((root.2.1, addr.fdiv (2 ^ min (Int.toNat 12) IntKind.i64.bits), 0, 0, [], []), 0) else none := by kernel_rfl
noncomputable def F_wlk : ((List (SPT)) × SCp × Int) → STr × Int
  | (ts, root, addr) => bif !tabsB ts then ((0, 0, 0, 0, [], []), 1) else bif !vcapB root then ((0, 0, 0, 0, [], []), 5) else bif root.1 != 3 then ((0, 0, 0, 0, [], []), 5) else bif root.2.2.2.2.2.1 != IntKind.i64.wrap ((geoS root.2.2.2.2.1).1 - 1) then ((0, 0, 0, 0, [], []), 5) else bif !vaS (root.2.2.2.2.1, addr) then ((0, 0, 0, 0, [], []), 6) else bif decide (root.2.2.2.2.2.1 ≥ 0) then bif !decide (ftS ts root.2.1 ≥ 0) then ((0, 0, 0, 0, [], []), 13) else bif (taS ts root.2.1).2.1 != root.2.2.2.2.1 then ((0, 0, 0, 0, [], []), 13) else bif (taS ts root.2.1).2.2.1 != root.2.2.2.2.2.1 then ((0, 0, 0, 0, [], []), 13) else bif !decide (faS ts root.2.2.2.2.1 addr root.2.2.2.2.2.1 root.2.1 ≥ 0) then ((0, 0, 0, 0, [], []), 13) else bif decide (IntKind.i64.wrap (root.2.2.2.2.2.1 - 1) ≥ 0) then bif !decide (ftS ts (maS ts root.2.2.2.2.1 addr root.2.2.2.2.2.1 root.2.1).2.1 ≥ 0) then ((0, 0, 0, 0, [], []), 13) else bif (taS ts (maS ts root.2.2.2.2.1 addr root.2.2.2.2.2.1 root.2.1).2.1).2.1 != root.2.2.2.2.1 then ((0, 0, 0, 0, [], []), 13) else bif (taS ts (maS ts root.2.2.2.2.1 addr root.2.2.2.2.2.1 root.2.1).2.1).2.2.1 != IntKind.i64.wrap (root.2.2.2.2.2.1 - 1) then ((0, 0, 0, 0, [], []), 13) else bif !decide (faS ts root.2.2.2.2.1 addr (IntKind.i64.wrap (root.2.2.2.2.2.1 - 1)) (maS ts root.2.2.2.2.1 addr root.2.2.2.2.2.1 root.2.1).2.1 ≥ 0) then ((0, 0, 0, 0, [], []), 13) else bif decide (IntKind.i64.wrap (IntKind.i64.wrap (root.2.2.2.2.2.1 - 1) - 1) ≥ 0) then bif !decide (ftS ts (maS ts root.2.2.2.2.1 addr (IntKind.i64.wrap (root.2.2.2.2.2.1 - 1)) (maS ts root.2.2.2.2.1 addr root.2.2.2.2.2.1 root.2.1).2.1).2.1 ≥ 0) then ((0, 0, 0, 0, [], []), 13) else bif (taS ts (maS ts root.2.2.2.2.1 addr (IntKind.i64.wrap (root.2.2.2.2.2.1 - 1)) (maS ts root.2.2.2.2.1 addr root.2.2.2.2.2.1 root.2.1).2.1).2.1).2.1 != root.2.2.2.2.1 then ((0, 0, 0, 0, [], []), 13) else bif (taS ts (maS ts root.2.2.2.2.1 addr (IntKind.i64.wrap (root.2.2.2.2.2.1 - 1)) (maS ts root.2.2.2.2.1 addr root.2.2.2.2.2.1 root.2.1).2.1).2.1).2.2.1 != IntKind.i64.wrap (IntKind.i64.wrap (root.2.2.2.2.2.1 - 1) - 1) then ((0, 0, 0, 0, [], []), 13) else bif !decide (faS ts root.2.2.2.2.1 addr (IntKind.i64.wrap (IntKind.i64.wrap (root.2.2.2.2.2.1 - 1) - 1)) (maS ts root.2.2.2.2.1 addr (IntKind.i64.wrap (root.2.2.2.2.2.1 - 1)) (maS ts root.2.2.2.2.1 addr root.2.2.2.2.2.1 root.2.1).2.1).2.1 ≥ 0) then ((0, 0, 0, 0, [], []), 13) else bif decide (IntKind.i64.wrap (IntKind.i64.wrap (IntKind.i64.wrap (root.2.2.2.2.2.1 - 1) - 1) - 1) ≥ 0) then bif !decide (ftS ts (maS ts root.2.2.2.2.1 addr (IntKind.i64.wrap (IntKind.i64.wrap (root.2.2.2.2.2.1 - 1) - 1)) (maS ts root.2.2.2.2.1 addr (IntKind.i64.wrap (root.2.2.2.2.2.1 - 1)) (maS ts root.2.2.2.2.1 addr root.2.2.2.2.2.1 root.2.1).2.1).2.1).2.1 ≥ 0) then ((0, 0, 0, 0, [], []), 13) else bif (taS ts (maS ts root.2.2.2.2.1 addr (IntKind.i64.wrap (IntKind.i64.wrap (root.2.2.2.2.2.1 - 1) - 1)) (maS ts root.2.2.2.2.1 addr (IntKind.i64.wrap (root.2.2.2.2.2.1 - 1)) (maS ts root.2.2.2.2.1 addr root.2.2.2.2.2.1 root.2.1).2.1).2.1).2.1).2.1 != root.2.2.2.2.1 then ((0, 0, 0, 0, [], []), 13) else bif (taS ts (maS ts root.2.2.2.2.1 addr (IntKind.i64.wrap (IntKind.i64.wrap (root.2.2.2.2.2.1 - 1) - 1)) (maS ts root.2.2.2.2.1 addr (IntKind.i64.wrap (root.2.2.2.2.2.1 - 1)) (maS ts root.2.2.2.2.1 addr root.2.2.2.2.2.1 root.2.1).2.1).2.1).2.1).2.2.1 != IntKind.i64.wrap (IntKind.i64.wrap (IntKind.i64.wrap (root.2.2.2.2.2.1 - 1) - 1) - 1) then ((0, 0, 0, 0, [], []), 13) else ((0, 0, 0, 0, [], []), 13) else ((root.2.1, addr.fdiv (2 ^ min (Int.toNat 12) IntKind.i64.bits), (maS ts root.2.2.2.2.1 addr (IntKind.i64.wrap (IntKind.i64.wrap (root.2.2.2.2.2.1 - 1) - 1)) (maS ts root.2.2.2.2.1 addr (IntKind.i64.wrap (root.2.2.2.2.2.1 - 1)) (maS ts root.2.2.2.2.1 addr root.2.2.2.2.2.1 root.2.1).2.1).2.1).2.1, (maS ts root.2.2.2.2.1 addr (IntKind.i64.wrap (IntKind.i64.wrap (root.2.2.2.2.2.1 - 1) - 1)) (maS ts root.2.2.2.2.1 addr (IntKind.i64.wrap (root.2.2.2.2.2.1 - 1)) (maS ts root.2.2.2.2.1 addr root.2.2.2.2.2.1 root.2.1).2.1).2.1).2.2.1, [(maS ts root.2.2.2.2.1 addr root.2.2.2.2.2.1 root.2.1).2.2.2] ++ [(maS ts root.2.2.2.2.1 addr (IntKind.i64.wrap (root.2.2.2.2.2.1 - 1)) (maS ts root.2.2.2.2.1 addr root.2.2.2.2.2.1 root.2.1).2.1).2.2.2] ++ [(maS ts root.2.2.2.2.1 addr (IntKind.i64.wrap (IntKind.i64.wrap (root.2.2.2.2.2.1 - 1) - 1)) (maS ts root.2.2.2.2.1 addr (IntKind.i64.wrap (root.2.2.2.2.2.1 - 1)) (maS ts root.2.2.2.2.1 addr root.2.2.2.2.2.1 root.2.1).2.1).2.1).2.2.2], [root.2.1] ++ [(maS ts root.2.2.2.2.1 addr root.2.2.2.2.2.1 root.2.1).2.1] ++ [(maS ts root.2.2.2.2.1 addr (IntKind.i64.wrap (root.2.2.2.2.2.1 - 1)) (maS ts root.2.2.2.2.1 addr root.2.2.2.2.2.1 root.2.1).2.1).2.1]), 0) else ((root.2.1, addr.fdiv (2 ^ min (Int.toNat 12) IntKind.i64.bits), (maS ts root.2.2.2.2.1 addr (IntKind.i64.wrap (root.2.2.2.2.2.1 - 1)) (maS ts root.2.2.2.2.1 addr root.2.2.2.2.2.1 root.2.1).2.1).2.1, (maS ts root.2.2.2.2.1 addr (IntKind.i64.wrap (root.2.2.2.2.2.1 - 1)) (maS ts root.2.2.2.2.1 addr root.2.2.2.2.2.1 root.2.1).2.1).2.2.1, [(maS ts root.2.2.2.2.1 addr root.2.2.2.2.2.1 root.2.1).2.2.2] ++ [(maS ts root.2.2.2.2.1 addr (IntKind.i64.wrap (root.2.2.2.2.2.1 - 1)) (maS ts root.2.2.2.2.1 addr root.2.2.2.2.2.1 root.2.1).2.1).2.2.2], [root.2.1] ++ [(maS ts root.2.2.2.2.1 addr root.2.2.2.2.2.1 root.2.1).2.1]), 0) else ((root.2.1, addr.fdiv (2 ^ min (Int.toNat 12) IntKind.i64.bits), (maS ts root.2.2.2.2.1 addr root.2.2.2.2.2.1 root.2.1).2.1, (maS ts root.2.2.2.2.1 addr root.2.2.2.2.2.1 root.2.1).2.2.1, [(maS ts root.2.2.2.2.1 addr root.2.2.2.2.2.1 root.2.1).2.2.2], [root.2.1]), 0) else ((root.2.1, addr.fdiv (2 ^ min (Int.toNat 12) IntKind.i64.bits), 0, 0, [], []), 0)
noncomputable def P_wlk : ((List (SPT)) × SCp × Int) → Bool
  | (ts, root, addr) => okM ts && bif !tabsB ts then true else bif !vcapB root then true else bif root.1 != 3 then true else bif root.2.2.2.2.2.1 != IntKind.i64.wrap ((geoS root.2.2.2.2.1).1 - 1) then true else bif !vaS (root.2.2.2.2.1, addr) then true else bif decide (root.2.2.2.2.2.1 ≥ 0) then len40n ts && bif !decide (ftS ts root.2.1 ≥ 0) then true else decide (0 ≤ ftS ts root.2.1) && decide (ftS ts root.2.1 < (↑ts.length : Int)) && bif (taS ts root.2.1).2.1 != root.2.2.2.2.1 then true else decide (0 ≤ ftS ts root.2.1) && decide (ftS ts root.2.1 < (↑ts.length : Int)) && bif (taS ts root.2.1).2.2.1 != root.2.2.2.2.2.1 then true else decide (0 ≤ ftS ts root.2.1) && decide (ftS ts root.2.1 < (↑ts.length : Int)) && (len40n (taS ts root.2.1).2.2.2 && bif !decide (faS ts root.2.2.2.2.1 addr root.2.2.2.2.2.1 root.2.1 ≥ 0) then true else decide (0 ≤ ftS ts root.2.1) && decide (ftS ts root.2.1 < (↑ts.length : Int)) && (decide (0 ≤ faS ts root.2.2.2.2.1 addr root.2.2.2.2.2.1 root.2.1) && decide (faS ts root.2.2.2.2.1 addr root.2.2.2.2.2.1 root.2.1 < (↑(List.length (taS ts root.2.1).2.2.2) : Int)) && bif decide (IntKind.i64.wrap (root.2.2.2.2.2.1 - 1) ≥ 0) then len40n ts && bif !decide (ftS ts (maS ts root.2.2.2.2.1 addr root.2.2.2.2.2.1 root.2.1).2.1 ≥ 0) then true else decide (0 ≤ ftS ts (maS ts root.2.2.2.2.1 addr root.2.2.2.2.2.1 root.2.1).2.1) && decide (ftS ts (maS ts root.2.2.2.2.1 addr root.2.2.2.2.2.1 root.2.1).2.1 < (↑ts.length : Int)) && bif (taS ts (maS ts root.2.2.2.2.1 addr root.2.2.2.2.2.1 root.2.1).2.1).2.1 != root.2.2.2.2.1 then true else decide (0 ≤ ftS ts (maS ts root.2.2.2.2.1 addr root.2.2.2.2.2.1 root.2.1).2.1) && decide (ftS ts (maS ts root.2.2.2.2.1 addr root.2.2.2.2.2.1 root.2.1).2.1 < (↑ts.length : Int)) && bif (taS ts (maS ts root.2.2.2.2.1 addr root.2.2.2.2.2.1 root.2.1).2.1).2.2.1 != IntKind.i64.wrap (root.2.2.2.2.2.1 - 1) then true else decide (0 ≤ ftS ts (maS ts root.2.2.2.2.1 addr root.2.2.2.2.2.1 root.2.1).2.1) && decide (ftS ts (maS ts root.2.2.2.2.1 addr root.2.2.2.2.2.1 root.2.1).2.1 < (↑ts.length : Int)) && (len40n (taS ts (maS ts root.2.2.2.2.1 addr root.2.2.2.2.2.1 root.2.1).2.1).2.2.2 && bif !decide (faS ts root.2.2.2.2.1 addr (IntKind.i64.wrap (root.2.2.2.2.2.1 - 1)) (maS ts root.2.2.2.2.1 addr root.2.2.2.2.2.1 root.2.1).2.1 ≥ 0) then true else decide (0 ≤ ftS ts (maS ts root.2.2.2.2.1 addr root.2.2.2.2.2.1 root.2.1).2.1) && decide (ftS ts (maS ts root.2.2.2.2.1 addr root.2.2.2.2.2.1 root.2.1).2.1 < (↑ts.length : Int)) && (decide (0 ≤ faS ts root.2.2.2.2.1 addr (IntKind.i64.wrap (root.2.2.2.2.2.1 - 1)) (maS ts root.2.2.2.2.1 addr root.2.2.2.2.2.1 root.2.1).2.1) && decide (faS ts root.2.2.2.2.1 addr (IntKind.i64.wrap (root.2.2.2.2.2.1 - 1)) (maS ts root.2.2.2.2.1 addr root.2.2.2.2.2.1 root.2.1).2.1 < (↑(List.length (taS ts (maS ts root.2.2.2.2.1 addr root.2.2.2.2.2.1 root.2.1).2.1).2.2.2) : Int)) && bif decide (IntKind.i64.wrap (IntKind.i64.wrap (root.2.2.2.2.2.1 - 1) - 1) ≥ 0) then len40n ts && bif !decide (ftS ts (maS ts root.2.2.2.2.1 addr (IntKind.i64.wrap (root.2.2.2.2.2.1 - 1)) (maS ts root.2.2.2.2.1 addr root.2.2.2.2.2.1 root.2.1).2.1).2.1 ≥ 0) then true else decide (0 ≤ ftS ts (maS ts root.2.2.2.2.1 addr (IntKind.i64.wrap (root.2.2.2.2.2.1 - 1)) (maS ts root.2.2.2.2.1 addr root.2.2.2.2.2.1 root.2.1).2.1).2.1) && decide (ftS ts (maS ts root.2.2.2.2.1 addr (IntKind.i64.wrap (root.2.2.2.2.2.1 - 1)) (maS ts root.2.2.2.2.1 addr root.2.2.2.2.2.1 root.2.1).2.1).2.1 < (↑ts.length : Int)) && bif (taS ts (maS ts root.2.2.2.2.1 addr (IntKind.i64.wrap (root.2.2.2.2.2.1 - 1)) (maS ts root.2.2.2.2.1 addr root.2.2.2.2.2.1 root.2.1).2.1).2.1).2.1 != root.2.2.2.2.1 then true else decide (0 ≤ ftS ts (maS ts root.2.2.2.2.1 addr (IntKind.i64.wrap (root.2.2.2.2.2.1 - 1)) (maS ts root.2.2.2.2.1 addr root.2.2.2.2.2.1 root.2.1).2.1).2.1) && decide (ftS ts (maS ts root.2.2.2.2.1 addr (IntKind.i64.wrap (root.2.2.2.2.2.1 - 1)) (maS ts root.2.2.2.2.1 addr root.2.2.2.2.2.1 root.2.1).2.1).2.1 < (↑ts.length : Int)) && bif (taS ts (maS ts root.2.2.2.2.1 addr (IntKind.i64.wrap (root.2.2.2.2.2.1 - 1)) (maS ts root.2.2.2.2.1 addr root.2.2.2.2.2.1 root.2.1).2.1).2.1).2.2.1 != IntKind.i64.wrap (IntKind.i64.wrap (root.2.2.2.2.2.1 - 1) - 1) then true else decide (0 ≤ ftS ts (maS ts root.2.2.2.2.1 addr (IntKind.i64.wrap (root.2.2.2.2.2.1 - 1)) (maS ts root.2.2.2.2.1 addr root.2.2.2.2.2.1 root.2.1).2.1).2.1) && decide (ftS ts (maS ts root.2.2.2.2.1 addr (IntKind.i64.wrap (root.2.2.2.2.2.1 - 1)) (maS ts root.2.2.2.2.1 addr root.2.2.2.2.2.1 root.2.1).2.1).2.1 < (↑ts.length : Int)) && (len40n (taS ts (maS ts root.2.2.2.2.1 addr (IntKind.i64.wrap (root.2.2.2.2.2.1 - 1)) (maS ts root.2.2.2.2.1 addr root.2.2.2.2.2.1 root.2.1).2.1).2.1).2.2.2 && bif !decide (faS ts root.2.2.2.2.1 addr (IntKind.i64.wrap (IntKind.i64.wrap (root.2.2.2.2.2.1 - 1) - 1)) (maS ts root.2.2.2.2.1 addr (IntKind.i64.wrap (root.2.2.2.2.2.1 - 1)) (maS ts root.2.2.2.2.1 addr root.2.2.2.2.2.1 root.2.1).2.1).2.1 ≥ 0) then true else decide (0 ≤ ftS ts (maS ts root.2.2.2.2.1 addr (IntKind.i64.wrap (root.2.2.2.2.2.1 - 1)) (maS ts root.2.2.2.2.1 addr root.2.2.2.2.2.1 root.2.1).2.1).2.1) && decide (ftS ts (maS ts root.2.2.2.2.1 addr (IntKind.i64.wrap (root.2.2.2.2.2.1 - 1)) (maS ts root.2.2.2.2.1 addr root.2.2.2.2.2.1 root.2.1).2.1).2.1 < (↑ts.length : Int)) && (decide (0 ≤ faS ts root.2.2.2.2.1 addr (IntKind.i64.wrap (IntKind.i64.wrap (root.2.2.2.2.2.1 - 1) - 1)) (maS ts root.2.2.2.2.1 addr (IntKind.i64.wrap (root.2.2.2.2.2.1 - 1)) (maS ts root.2.2.2.2.1 addr root.2.2.2.2.2.1 root.2.1).2.1).2.1) && decide (faS ts root.2.2.2.2.1 addr (IntKind.i64.wrap (IntKind.i64.wrap (root.2.2.2.2.2.1 - 1) - 1)) (maS ts root.2.2.2.2.1 addr (IntKind.i64.wrap (root.2.2.2.2.2.1 - 1)) (maS ts root.2.2.2.2.1 addr root.2.2.2.2.2.1 root.2.1).2.1).2.1 < (↑(List.length (taS ts (maS ts root.2.2.2.2.1 addr (IntKind.i64.wrap (root.2.2.2.2.2.1 - 1)) (maS ts root.2.2.2.2.1 addr root.2.2.2.2.2.1 root.2.1).2.1).2.1).2.2.2) : Int)) && bif decide (IntKind.i64.wrap (IntKind.i64.wrap (IntKind.i64.wrap (root.2.2.2.2.2.1 - 1) - 1) - 1) ≥ 0) then len40n ts && bif !decide (ftS ts (maS ts root.2.2.2.2.1 addr (IntKind.i64.wrap (IntKind.i64.wrap (root.2.2.2.2.2.1 - 1) - 1)) (maS ts root.2.2.2.2.1 addr (IntKind.i64.wrap (root.2.2.2.2.2.1 - 1)) (maS ts root.2.2.2.2.1 addr root.2.2.2.2.2.1 root.2.1).2.1).2.1).2.1 ≥ 0) then true else decide (0 ≤ ftS ts (maS ts root.2.2.2.2.1 addr (IntKind.i64.wrap (IntKind.i64.wrap (root.2.2.2.2.2.1 - 1) - 1)) (maS ts root.2.2.2.2.1 addr (IntKind.i64.wrap (root.2.2.2.2.2.1 - 1)) (maS ts root.2.2.2.2.1 addr root.2.2.2.2.2.1 root.2.1).2.1).2.1).2.1) && decide (ftS ts (maS ts root.2.2.2.2.1 addr (IntKind.i64.wrap (IntKind.i64.wrap (root.2.2.2.2.2.1 - 1) - 1)) (maS ts root.2.2.2.2.1 addr (IntKind.i64.wrap (root.2.2.2.2.2.1 - 1)) (maS ts root.2.2.2.2.1 addr root.2.2.2.2.2.1 root.2.1).2.1).2.1).2.1 < (↑ts.length : Int)) && bif (taS ts (maS ts root.2.2.2.2.1 addr (IntKind.i64.wrap (IntKind.i64.wrap (root.2.2.2.2.2.1 - 1) - 1)) (maS ts root.2.2.2.2.1 addr (IntKind.i64.wrap (root.2.2.2.2.2.1 - 1)) (maS ts root.2.2.2.2.1 addr root.2.2.2.2.2.1 root.2.1).2.1).2.1).2.1).2.1 != root.2.2.2.2.1 then true else decide (0 ≤ ftS ts (maS ts root.2.2.2.2.1 addr (IntKind.i64.wrap (IntKind.i64.wrap (root.2.2.2.2.2.1 - 1) - 1)) (maS ts root.2.2.2.2.1 addr (IntKind.i64.wrap (root.2.2.2.2.2.1 - 1)) (maS ts root.2.2.2.2.1 addr root.2.2.2.2.2.1 root.2.1).2.1).2.1).2.1) && decide (ftS ts (maS ts root.2.2.2.2.1 addr (IntKind.i64.wrap (IntKind.i64.wrap (root.2.2.2.2.2.1 - 1) - 1)) (maS ts root.2.2.2.2.1 addr (IntKind.i64.wrap (root.2.2.2.2.2.1 - 1)) (maS ts root.2.2.2.2.1 addr root.2.2.2.2.2.1 root.2.1).2.1).2.1).2.1 < (↑ts.length : Int)) && bif (taS ts (maS ts root.2.2.2.2.1 addr (IntKind.i64.wrap (IntKind.i64.wrap (root.2.2.2.2.2.1 - 1) - 1)) (maS ts root.2.2.2.2.1 addr (IntKind.i64.wrap (root.2.2.2.2.2.1 - 1)) (maS ts root.2.2.2.2.1 addr root.2.2.2.2.2.1 root.2.1).2.1).2.1).2.1).2.2.1 != IntKind.i64.wrap (IntKind.i64.wrap (IntKind.i64.wrap (root.2.2.2.2.2.1 - 1) - 1) - 1) then true else decide (0 ≤ ftS ts (maS ts root.2.2.2.2.1 addr (IntKind.i64.wrap (IntKind.i64.wrap (root.2.2.2.2.2.1 - 1) - 1)) (maS ts root.2.2.2.2.1 addr (IntKind.i64.wrap (root.2.2.2.2.2.1 - 1)) (maS ts root.2.2.2.2.1 addr root.2.2.2.2.2.1 root.2.1).2.1).2.1).2.1) && decide (ftS ts (maS ts root.2.2.2.2.1 addr (IntKind.i64.wrap (IntKind.i64.wrap (root.2.2.2.2.2.1 - 1) - 1)) (maS ts root.2.2.2.2.1 addr (IntKind.i64.wrap (root.2.2.2.2.2.1 - 1)) (maS ts root.2.2.2.2.1 addr root.2.2.2.2.2.1 root.2.1).2.1).2.1).2.1 < (↑ts.length : Int)) && (len40n (taS ts (maS ts root.2.2.2.2.1 addr (IntKind.i64.wrap (IntKind.i64.wrap (root.2.2.2.2.2.1 - 1) - 1)) (maS ts root.2.2.2.2.1 addr (IntKind.i64.wrap (root.2.2.2.2.2.1 - 1)) (maS ts root.2.2.2.2.1 addr root.2.2.2.2.2.1 root.2.1).2.1).2.1).2.1).2.2.2 && !decide (faS ts root.2.2.2.2.1 addr (IntKind.i64.wrap (IntKind.i64.wrap (IntKind.i64.wrap (root.2.2.2.2.2.1 - 1) - 1) - 1)) (maS ts root.2.2.2.2.1 addr (IntKind.i64.wrap (IntKind.i64.wrap (root.2.2.2.2.2.1 - 1) - 1)) (maS ts root.2.2.2.2.1 addr (IntKind.i64.wrap (root.2.2.2.2.2.1 - 1)) (maS ts root.2.2.2.2.1 addr root.2.2.2.2.2.1 root.2.1).2.1).2.1).2.1 ≥ 0)) else true)) else true)) else true)) else true
theorem wlk_auto : ∀ a : (List (SPT)) × SCp × Int, Rns (fun f => M_wlk f a) (P_wlk a) (F_wlk a)
  | (ts, root, addr) => ev_step (fun f => M_wlk_eq f _ _ _) (evx_chk (ev_bif ev_some (ev_bif ev_some (ev_bif ev_some (ev_bif ev_some (ev_bif ev_some (ev_bif (evx_chk (ev_bif ev_some (evx_chk (ev_bif ev_some (evx_chk (ev_bif ev_some (evx_chk (evx_chk (ev_bif ev_some (evx_chk (evx_chk (ev_bif (evx_chk (ev_bif ev_some (evx_chk (ev_bif ev_some (evx_chk (ev_bif ev_some (evx_chk (evx_chk (ev_bif ev_some (evx_chk (evx_chk (ev_bif (evx_chk (ev_bif ev_some (evx_chk (ev_bif ev_some (evx_chk (ev_bif ev_some (evx_chk (evx_chk (ev_bif ev_some (evx_chk (evx_chk (ev_bif (evx_chk (ev_bif ev_some (evx_chk (ev_bif ev_some (evx_chk (ev_bif ev_some (evx_chk (evx_chk (evx_chk1 ev_some))))))))) ev_some)))))))))))) ev_some)))))))))))) ev_some)))))))))))) ev_some)))))))
noncomputable def F_rwlk : ((List (SPT)) × SCp × Int) → STr × Int
  | (ts, root, addr) => bif !tabsB ts then ((0, 0, 0, 0, [], []), 1) else bif !vcapB root then ((0, 0, 0, 0, [], []), 5) else bif root.1 != 3 then ((0, 0, 0, 0, [], []), 5) else bif root.2.2.2.2.2.1 != IntKind.i64.wrap ((geoS root.2.2.2.2.1).1 - 1) then ((0, 0, 0, 0, [], []), 5) else bif !vaS (root.2.2.2.2.1, addr) then ((0, 0, 0, 0, [], []), 6) else bif decide (root.2.2.2.2.2.1 ≥ 0) then bif decide (ftS ts root.2.1 < 0) then ((0, 0, 0, 0, [], []), 13) else bif (taS ts root.2.1).2.1 != root.2.2.2.2.1 then ((0, 0, 0, 0, [], []), 13) else bif (taS ts root.2.1).2.2.1 != root.2.2.2.2.2.1 then ((0, 0, 0, 0, [], []), 13) else bif decide (faS ts root.2.2.2.2.1 addr root.2.2.2.2.2.1 root.2.1 < 0) then ((0, 0, 0, 0, [], []), 13) else bif decide (IntKind.i64.wrap (root.2.2.2.2.2.1 - 1) ≥ 0) then bif decide (ftS ts (maS ts root.2.2.2.2.1 addr root.2.2.2.2.2.1 root.2.1).2.1 < 0) then ((0, 0, 0, 0, [], []), 13) else bif (taS ts (maS ts root.2.2.2.2.1 addr root.2.2.2.2.2.1 root.2.1).2.1).2.1 != root.2.2.2.2.1 then ((0, 0, 0, 0, [], []), 13) else bif (taS ts (maS ts root.2.2.2.2.1 addr root.2.2.2.2.2.1 root.2.1).2.1).2.2.1 != IntKind.i64.wrap (root.2.2.2.2.2.1 - 1) then ((0, 0, 0, 0, [], []), 13) else bif decide (faS ts root.2.2.2.2.1 addr (IntKind.i64.wrap (root.2.2.2.2.2.1 - 1)) (maS ts root.2.2.2.2.1 addr root.2.2.2.2.2.1 root.2.1).2.1 < 0) then ((0, 0, 0, 0, [], []), 13) else bif decide (IntKind.i64.wrap (IntKind.i64.wrap (root.2.2.2.2.2.1 - 1) - 1) ≥ 0) then bif decide (ftS ts (maS ts root.2.2.2.2.1 addr (IntKind.i64.wrap (root.2.2.2.2.2.1 - 1)) (maS ts root.2.2.2.2.1 addr root.2.2.2.2.2.1 root.2.1).2.1).2.1 < 0) then ((0, 0, 0, 0, [], []), 13) else bif (taS ts (maS ts root.2.2.2.2.1 addr (IntKind.i64.wrap (root.2.2.2.2.2.1 - 1)) (maS ts root.2.2.2.2.1 addr root.2.2.2.2.2.1 root.2.1).2.1).2.1).2.1 != root.2.2.2.2.1 then ((0, 0, 0, 0, [], []), 13) else bif (taS ts (maS ts root.2.2.2.2.1 addr (IntKind.i64.wrap (root.2.2.2.2.2.1 - 1)) (maS ts root.2.2.2.2.1 addr root.2.2.2.2.2.1 root.2.1).2.1).2.1).2.2.1 != IntKind.i64.wrap (IntKind.i64.wrap (root.2.2.2.2.2.1 - 1) - 1) then ((0, 0, 0, 0, [], []), 13) else bif decide (faS ts root.2.2.2.2.1 addr (IntKind.i64.wrap (IntKind.i64.wrap (root.2.2.2.2.2.1 - 1) - 1)) (maS ts root.2.2.2.2.1 addr (IntKind.i64.wrap (root.2.2.2.2.2.1 - 1)) (maS ts root.2.2.2.2.1 addr root.2.2.2.2.2.1 root.2.1).2.1).2.1 < 0) then ((0, 0, 0, 0, [], []), 13) else bif decide (IntKind.i64.wrap (IntKind.i64.wrap (IntKind.i64.wrap (root.2.2.2.2.2.1 - 1) - 1) - 1) ≥ 0) then bif decide (ftS ts (maS ts root.2.2.2.2.1 addr (IntKind.i64.wrap (IntKind.i64.wrap (root.2.2.2.2.2.1 - 1) - 1)) (maS ts root.2.2.2.2.1 addr (IntKind.i64.wrap (root.2.2.2.2.2.1 - 1)) (maS ts root.2.2.2.2.1 addr root.2.2.2.2.2.1 root.2.1).2.1).2.1).2.1 < 0) then ((0, 0, 0, 0, [], []), 13) else bif (taS ts (maS ts root.2.2.2.2.1 addr (IntKind.i64.wrap (IntKind.i64.wrap (root.2.2.2.2.2.1 - 1) - 1)) (maS ts root.2.2.2.2.1 addr (IntKind.i64.wrap (root.2.2.2.2.2.1 - 1)) (maS ts root.2.2.2.2.1 addr root.2.2.2.2.2.1 root.2.1).2.1).2.1).2.1).2.1 != root.2.2.2.2.1 then ((0, 0, 0, 0, [], []), 13) else bif (taS ts (maS ts root.2.2.2.2.1 addr (IntKind.i64.wrap (IntKind.i64.wrap (root.2.2.2.2.2.1 - 1) - 1)) (maS ts root.2.2.2.2.1 addr (IntKind.i64.wrap (root.2.2.2.2.2.1 - 1)) (maS ts root.2.2.2.2.1 addr root.2.2.2.2.2.1 root.2.1).2.1).2.1).2.1).2.2.1 != IntKind.i64.wrap (IntKind.i64.wrap (IntKind.i64.wrap (root.2.2.2.2.2.1 - 1) - 1) - 1) then ((0, 0, 0, 0, [], []), 13) else ((0, 0, 0, 0, [], []), 13) else ((root.2.1, IntKind.i64.wrap (addr.tdiv 4096), (maS ts root.2.2.2.2.1 addr (IntKind.i64.wrap (IntKind.i64.wrap (root.2.2.2.2.2.1 - 1) - 1)) (maS ts root.2.2.2.2.1 addr (IntKind.i64.wrap (root.2.2.2.2.2.1 - 1)) (maS ts root.2.2.2.2.1 addr root.2.2.2.2.2.1 root.2.1).2.1).2.1).2.1, (maS ts root.2.2.2.2.1 addr (IntKind.i64.wrap (IntKind.i64.wrap (root.2.2.2.2.2.1 - 1) - 1)) (maS ts root.2.2.2.2.1 addr (IntKind.i64.wrap (root.2.2.2.2.2.1 - 1)) (maS ts root.2.2.2.2.1 addr root.2.2.2.2.2.1 root.2.1).2.1).2.1).2.2.1, [] ++ [(maS ts root.2.2.2.2.1 addr root.2.2.2.2.2.1 root.2.1).2.2.2] ++ [(maS ts root.2.2.2.2.1 addr (IntKind.i64.wrap (root.2.2.2.2.2.1 - 1)) (maS ts root.2.2.2.2.1 addr root.2.2.2.2.2.1 root.2.1).2.1).2.2.2] ++ [(maS ts root.2.2.2.2.1 addr (IntKind.i64.wrap (IntKind.i64.wrap (root.2.2.2.2.2.1 - 1) - 1)) (maS ts root.2.2.2.2.1 addr (IntKind.i64.wrap (root.2.2.2.2.2.1 - 1)) (maS ts root.2.2.2.2.1 addr root.2.2.2.2.2.1 root.2.1).2.1).2.1).2.2.2], [] ++ [root.2.1] ++ [(maS ts root.2.2.2.2.1 addr root.2.2.2.2.2.1 root.2.1).2.1] ++ [(maS ts root.2.2.2.2.1 addr (IntKind.i64.wrap (root.2.2.2.2.2.1 - 1)) (maS ts root.2.2.2.2.1 addr root.2.2.2.2.2.1 root.2.1).2.1).2.1]), 0) else ((root.2.1, IntKind.i64.wrap (addr.tdiv 4096), (maS ts root.2.2.2.2.1 addr (IntKind.i64.wrap (root.2.2.2.2.2.1 - 1)) (maS ts root.2.2.2.2.1 addr root.2.2.2.2.2.1 root.2.1).2.1).2.1, (maS ts root.2.2.2.2.1 addr (IntKind.i64.wrap (root.2.2.2.2.2.1 - 1)) (maS ts root.2.2.2.2.1 addr root.2.2.2.2.2.1 root.2.1).2.1).2.2.1, [] ++ [(maS ts root.2.2.2.2.1 addr root.2.2.2.2.2.1 root.2.1).2.2.2] ++ [(maS ts root.2.2.2.2.1 addr (IntKind.i64.wrap (root.2.2.2.2.2.1 - 1)) (maS ts root.2.2.2.2.1 addr root.2.2.2.2.2.1 root.2.1).2.1).2.2.2], [] ++ [root.2.1] ++ [(maS ts root.2.2.2.2.1 addr root.2.2.2.2.2.1 root.2.1).2.1]), 0) else ((root.2.1, IntKind.i64.wrap (addr.tdiv 4096), (maS ts root.2.2.2.2.1 addr root.2.2.2.2.2.1 root.2.1).2.1, (maS ts root.2.2.2.2.1 addr root.2.2.2.2.2.1 root.2.1).2.2.1, [] ++ [(maS ts root.2.2.2.2.1 addr root.2.2.2.2.2.1 root.2.1).2.2.2], [] ++ [root.2.1]), 0) else ((root.2.1, IntKind.i64.wrap (addr.tdiv 4096), 0, 0, [], []), 0)
noncomputable def P_rwlk : ((List (SPT)) × SCp × Int) → Bool
  | (ts, root, addr) => okM ts && bif !tabsB ts then true else bif !vcapB root then true else bif root.1 != 3 then true else bif root.2.2.2.2.2.1 != IntKind.i64.wrap ((geoS root.2.2.2.2.1).1 - 1) then true else bif !vaS (root.2.2.2.2.1, addr) then true else bif decide (root.2.2.2.2.2.1 ≥ 0) then len40n ts && bif decide (ftS ts root.2.1 < 0) then true else decide (0 ≤ ftS ts root.2.1) && decide (ftS ts root.2.1 < (↑ts.length : Int)) && bif (taS ts root.2.1).2.1 != root.2.2.2.2.1 then true else decide (0 ≤ ftS ts root.2.1) && decide (ftS ts root.2.1 < (↑ts.length : Int)) && bif (taS ts root.2.1).2.2.1 != root.2.2.2.2.2.1 then true else decide (0 ≤ ftS ts root.2.1) && decide (ftS ts root.2.1 < (↑ts.length : Int)) && (len40n (taS ts root.2.1).2.2.2 && bif decide (faS ts root.2.2.2.2.1 addr root.2.2.2.2.2.1 root.2.1 < 0) then true else decide (0 ≤ ftS ts root.2.1) && decide (ftS ts root.2.1 < (↑ts.length : Int)) && (decide (0 ≤ faS ts root.2.2.2.2.1 addr root.2.2.2.2.2.1 root.2.1) && decide (faS ts root.2.2.2.2.1 addr root.2.2.2.2.2.1 root.2.1 < (↑(List.length (taS ts root.2.1).2.2.2) : Int)) && bif decide (IntKind.i64.wrap (root.2.2.2.2.2.1 - 1) ≥ 0) then len40n ts && bif decide (ftS ts (maS ts root.2.2.2.2.1 addr root.2.2.2.2.2.1 root.2.1).2.1 < 0) then true else decide (0 ≤ ftS ts (maS ts root.2.2.2.2.1 addr root.2.2.2.2.2.1 root.2.1).2.1) && decide (ftS ts (maS ts root.2.2.2.2.1 addr root.2.2.2.2.2.1 root.2.1).2.1 < (↑ts.length : Int)) && bif (taS ts (maS ts root.2.2.2.2.1 addr root.2.2.2.2.2.1 root.2.1).2.1).2.1 != root.2.2.2.2.1 then true else decide (0 ≤ ftS ts (maS ts root.2.2.2.2.1 addr root.2.2.2.2.2.1 root.2.1).2.1) && decide (ftS ts (maS ts root.2.2.2.2.1 addr root.2.2.2.2.2.1 root.2.1).2.1 < (↑ts.length : Int)) && bif (taS ts (maS ts root.2.2.2.2.1 addr root.2.2.2.2.2.1 root.2.1).2.1).2.2.1 != IntKind.i64.wrap (root.2.2.2.2.2.1 - 1) then true else decide (0 ≤ ftS ts (maS ts root.2.2.2.2.1 addr root.2.2.2.2.2.1 root.2.1).2.1) && decide (ftS ts (maS ts root.2.2.2.2.1 addr root.2.2.2.2.2.1 root.2.1).2.1 < (↑ts.length : Int)) && (len40n (taS ts (maS ts root.2.2.2.2.1 addr root.2.2.2.2.2.1 root.2.1).2.1).2.2.2 && bif decide (faS ts root.2.2.2.2.1 addr (IntKind.i64.wrap (root.2.2.2.2.2.1 - 1)) (maS ts root.2.2.2.2.1 addr root.2.2.2.2.2.1 root.2.1).2.1 < 0) then true else decide (0 ≤ ftS ts (maS ts root.2.2.2.2.1 addr root.2.2.2.2.2.1 root.2.1).2.1) && decide (ftS ts (maS ts root.2.2.2.2.1 addr root.2.2.2.2.2.1 root.2.1).2.1 < (↑ts.length : Int)) && (decide (0 ≤ faS ts root.2.2.2.2.1 addr (IntKind.i64.wrap (root.2.2.2.2.2.1 - 1)) (maS ts root.2.2.2.2.1 addr root.2.2.2.2.2.1 root.2.1).2.1) && decide (faS ts root.2.2.2.2.1 addr (IntKind.i64.wrap (root.2.2.2.2.2.1 - 1)) (maS ts root.2.2.2.2.1 addr root.2.2.2.2.2.1 root.2.1).2.1 < (↑(List.length (taS ts (maS ts root.2.2.2.2.1 addr root.2.2.2.2.2.1 root.2.1).2.1).2.2.2) : Int)) && bif decide (IntKind.i64.wrap (IntKind.i64.wrap (root.2.2.2.2.2.1 - 1) - 1) ≥ 0) then len40n ts && bif decide (ftS ts (maS ts root.2.2.2.2.1 addr (IntKind.i64.wrap (root.2.2.2.2.2.1 - 1)) (maS ts root.2.2.2.2.1 addr root.2.2.2.2.2.1 root.2.1).2.1).2.1 < 0) then true else decide (0 ≤ ftS ts (maS ts root.2.2.2.2.1 addr (IntKind.i64.wrap (root.2.2.2.2.2.1 - 1)) (maS ts root.2.2.2.2.1 addr root.2.2.2.2.2.1 root.2.1).2.1).2.1) && decide (ftS ts (maS ts root.2.2.2.2.1 addr (IntKind.i64.wrap (root.2.2.2.2.2.1 - 1)) (maS ts root.2.2.2.2.1 addr root.2.2.2.2.2.1 root.2.1).2.1).2.1 < (↑ts.length : Int)) && bif (taS ts (maS ts root.2.2.2.2.1 addr (IntKind.i64.wrap (root.2.2.2.2.2.1 - 1)) (maS ts root.2.2.2.2.1 addr root.2.2.2.2.2.1 root.2.1).2.1).2.1).2.1 != root.2.2.2.2.1 then true else decide (0 ≤ ftS ts (maS ts root.2.2.2.2.1 addr (IntKind.i64.wrap (root.2.2.2.2.2.1 - 1)) (maS ts root.2.2.2.2.1 addr root.2.2.2.2.2.1 root.2.1).2.1).2.1) && decide (ftS ts (maS ts root.2.2.2.2.1 addr (IntKind.i64.wrap (root.2.2.2.2.2.1 - 1)) (maS ts root.2.2.2.2.1 addr root.2.2.2.2.2.1 root.2.1).2.1).2.1 < (↑ts.length : Int)) && bif (taS ts (maS ts root.2.2.2.2.1 addr (IntKind.i64.wrap (root.2.2.2.2.2.1 - 1)) (maS ts root.2.2.2.2.1 addr root.2.2.2.2.2.1 root.2.1).2.1).2.1).2.2.1 != IntKind.i64.wrap (IntKind.i64.wrap (root.2.2.2.2.2.1 - 1) - 1) then true else decide (0 ≤ ftS ts (maS ts root.2.2.2.2.1 addr (IntKind.i64.wrap (root.2.2.2.2.2.1 - 1)) (maS ts root.2.2.2.2.1 addr root.2.2.2.2.2.1 root.2.1).2.1).2.1) && decide (ftS ts (maS ts root.2.2.2.2.1 addr (IntKind.i64.wrap (root.2.2.2.2.2.1 - 1)) (maS ts root.2.2.2.2.1 addr root.2.2.2.2.2.1 root.2.1).2.1).2.1 < (↑ts.length : Int)) && (len40n (taS ts (maS ts root.2.2.2.2.1 addr (IntKind.i64.wrap (root.2.2.2.2.2.1 - 1)) (maS ts root.2.2.2.2.1 addr root.2.2.2.2.2.1 root.2.1).2.1).2.1).2.2.2 && bif decide (faS ts root.2.2.2.2.1 addr (IntKind.i64.wrap (IntKind.i64.wrap (root.2.2.2.2.2.1 - 1) - 1)) (maS ts root.2.2.2.2.1 addr (IntKind.i64.wrap (root.2.2.2.2.2.1 - 1)) (maS ts root.2.2.2.2.1 addr root.2.2.2.2.2.1 root.2.1).2.1).2.1 < 0) then true else decide (0 ≤ ftS ts (maS ts root.2.2.2.2.1 addr (IntKind.i64.wrap (root.2.2.2.2.2.1 - 1)) (maS ts root.2.2.2.2.1 addr root.2.2.2.2.2.1 root.2.1).2.1).2.1) && decide (ftS ts (maS ts root.2.2.2.2.1 addr (IntKind.i64.wrap (root.2.2.2.2.2.1 - 1)) (maS ts root.2.2.2.2.1 addr root.2.2.2.2.2.1 root.2.1).2.1).2.1 < (↑ts.length : Int)) && (decide (0 ≤ faS ts root.2.2.2.2.1 addr (IntKind.i64.wrap (IntKind.i64.wrap (root.2.2.2.2.2.1 - 1) - 1)) (maS ts root.2.2.2.2.1 addr (IntKind.i64.wrap (root.2.2.2.2.2.1 - 1)) (maS ts root.2.2.2.2.1 addr root.2.2.2.2.2.1 root.2.1).2.1).2.1) && decide (faS ts root.2.2.2.2.1 addr (IntKind.i64.wrap (IntKind.i64.wrap (root.2.2.2.2.2.1 - 1) - 1)) (maS ts root.2.2.2.2.1 addr (IntKind.i64.wrap (root.2.2.2.2.2.1 - 1)) (maS ts root.2.2.2.2.1 addr root.2.2.2.2.2.1 root.2.1).2.1).2.1 < (↑(List.length (taS ts (maS ts root.2.2.2.2.1 addr (IntKind.i64.wrap (root.2.2.2.2.2.1 - 1)) (maS ts root.2.2.2.2.1 addr root.2.2.2.2.2.1 root.2.1).2.1).2.1).2.2.2) : Int)) && bif decide (IntKind.i64.wrap (IntKind.i64.wrap (IntKind.i64.wrap (root.2.2.2.2.2.1 - 1) - 1) - 1) ≥ 0) then len40n ts && bif decide (ftS ts (maS ts root.2.2.2.2.1 addr (IntKind.i64.wrap (IntKind.i64.wrap (root.2.2.2.2.2.1 - 1) - 1)) (maS ts root.2.2.2.2.1 addr (IntKind.i64.wrap (root.2.2.2.2.2.1 - 1)) (maS ts root.2.2.2.2.1 addr root.2.2.2.2.2.1 root.2.1).2.1).2.1).2.1 < 0) then true else decide (0 ≤ ftS ts (maS ts root.2.2.2.2.1 addr (IntKind.i64.wrap (IntKind.i64.wrap (root.2.2.2.2.2.1 - 1) - 1)) (maS ts root.2.2.2.2.1 addr (IntKind.i64.wrap (root.2.2.2.2.2.1 - 1)) (maS ts root.2.2.2.2.1 addr root.2.2.2.2.2.1 root.2.1).2.1).2.1).2.1) && decide (ftS ts (maS ts root.2.2.2.2.1 addr (IntKind.i64.wrap (IntKind.i64.wrap (root.2.2.2.2.2.1 - 1) - 1)) (maS ts root.2.2.2.2.1 addr (IntKind.i64.wrap (root.2.2.2.2.2.1 - 1)) (maS ts root.2.2.2.2.1 addr root.2.2.2.2.2.1 root.2.1).2.1).2.1).2.1 < (↑ts.length : Int)) && bif (taS ts (maS ts root.2.2.2.2.1 addr (IntKind.i64.wrap (IntKind.i64.wrap (root.2.2.2.2.2.1 - 1) - 1)) (maS ts root.2.2.2.2.1 addr (IntKind.i64.wrap (root.2.2.2.2.2.1 - 1)) (maS ts root.2.2.2.2.1 addr root.2.2.2.2.2.1 root.2.1).2.1).2.1).2.1).2.1 != root.2.2.2.2.1 then true else decide (0 ≤ ftS ts (maS ts root.2.2.2.2.1 addr (IntKind.i64.wrap (IntKind.i64.wrap (root.2.2.2.2.2.1 - 1) - 1)) (maS ts root.2.2.2.2.1 addr (IntKind.i64.wrap (root.2.2.2.2.2.1 - 1)) (maS ts root.2.2.2.2.1 addr root.2.2.2.2.2.1 root.2.1).2.1).2.1).2.1) && decide (ftS ts (maS ts root.2.2.2.2.1 addr (IntKind.i64.wrap (IntKind.i64.wrap (root.2.2.2.2.2.1 - 1) - 1)) (maS ts root.2.2.2.2.1 addr (IntKind.i64.wrap (root.2.2.2.2.2.1 - 1)) (maS ts root.2.2.2.2.1 addr root.2.2.2.2.2.1 root.2.1).2.1).2.1).2.1 < (↑ts.length : Int)) && bif (taS ts (maS ts root.2.2.2.2.1 addr (IntKind.i64.wrap (IntKind.i64.wrap (root.2.2.2.2.2.1 - 1) - 1)) (maS ts root.2.2.2.2.1 addr (IntKind.i64.wrap (root.2.2.2.2.2.1 - 1)) (maS ts root.2.2.2.2.1 addr root.2.2.2.2.2.1 root.2.1).2.1).2.1).2.1).2.2.1 != IntKind.i64.wrap (IntKind.i64.wrap (IntKind.i64.wrap (root.2.2.2.2.2.1 - 1) - 1) - 1) then true else decide (0 ≤ ftS ts (maS ts root.2.2.2.2.1 addr (IntKind.i64.wrap (IntKind.i64.wrap (root.2.2.2.2.2.1 - 1) - 1)) (maS ts root.2.2.2.2.1 addr (IntKind.i64.wrap (root.2.2.2.2.2.1 - 1)) (maS ts root.2.2.2.2.1 addr root.2.2.2.2.2.1 root.2.1).2.1).2.1).2.1) && decide (ftS ts (maS ts root.2.2.2.2.1 addr (IntKind.i64.wrap (IntKind.i64.wrap (root.2.2.2.2.2.1 - 1) - 1)) (maS ts root.2.2.2.2.1 addr (IntKind.i64.wrap (root.2.2.2.2.2.1 - 1)) (maS ts root.2.2.2.2.1 addr root.2.2.2.2.2.1 root.2.1).2.1).2.1).2.1 < (↑ts.length : Int)) && (len40n (taS ts (maS ts root.2.2.2.2.1 addr (IntKind.i64.wrap (IntKind.i64.wrap (root.2.2.2.2.2.1 - 1) - 1)) (maS ts root.2.2.2.2.1 addr (IntKind.i64.wrap (root.2.2.2.2.2.1 - 1)) (maS ts root.2.2.2.2.1 addr root.2.2.2.2.2.1 root.2.1).2.1).2.1).2.1).2.2.2 && decide (faS ts root.2.2.2.2.1 addr (IntKind.i64.wrap (IntKind.i64.wrap (IntKind.i64.wrap (root.2.2.2.2.2.1 - 1) - 1) - 1)) (maS ts root.2.2.2.2.1 addr (IntKind.i64.wrap (IntKind.i64.wrap (root.2.2.2.2.2.1 - 1) - 1)) (maS ts root.2.2.2.2.1 addr (IntKind.i64.wrap (root.2.2.2.2.2.1 - 1)) (maS ts root.2.2.2.2.1 addr root.2.2.2.2.2.1 root.2.1).2.1).2.1).2.1 < 0)) else true)) else true)) else true)) else true
end Go.AL
/-
  Layer 16: Walk: what both compute. By an AI agent.
-/
namespace Go.AL
open Go.Proofs
set_option linter.unusedVariables false
set_option linter.unusedSimpArgs false
def z13 : STr × Int := ((0, 0, 0, 0, [], []), 13)
def wkF (ts : List SPT) (w addr lv b : Int) (k : STr × Int) : STr × Int :=
  bif !decide (ftS ts b ≥ 0) then z13 else bif (taS ts b).2.1 != w then z13 else bif (taS ts b).2.2.1 != lv then z13 else bif !decide (faS ts w addr lv b ≥ 0) then z13 else k
def wkR (ts : List SPT) (w addr lv b : Int) (k : STr × Int) : STr × Int :=
  bif decide (ftS ts b < 0) then z13 else bif (taS ts b).2.1 != w then z13 else bif (taS ts b).2.2.1 != lv then z13 else bif decide (faS ts w addr lv b < 0) then z13 else k
theorem ge_lt0 (x : Int) : (!decide (x ≥ 0)) = decide (x < 0) := by
  by_cases h : x < 0
  · rw [decide_eq_true h, decide_eq_false (by omega)]; rfl
  · rw [decide_eq_false h, decide_eq_true (by omega)]; rfl
theorem wkF_R {ts : List SPT} {w addr lv b : Int} {k : STr × Int} : wkF ts w addr lv b k = wkR ts w addr lv b k := by
  simp only [wkF, wkR, ge_lt0]
def wkP (ts : List SPT) (w addr lv b : Int) (q : Bool) : Bool :=
  len40n ts && bif decide (ftS ts b < 0) then true else decide (0 ≤ ftS ts b) && decide (ftS ts b < (↑ts.length : Int)) && bif (taS ts b).2.1 != w then true else decide (0 ≤ ftS ts b) && decide (ftS ts b < (↑ts.length : Int)) && bif (taS ts b).2.2.1 != lv then true else decide (0 ≤ ftS ts b) && decide (ftS ts b < (↑ts.length : Int)) && (len40n (taS ts b).2.2.2 && bif decide (faS ts w addr lv b < 0) then true else decide (0 ≤ ftS ts b) && decide (ftS ts b < (↑ts.length : Int)) && (decide (0 ≤ faS ts w addr lv b) && decide (faS ts w addr lv b < (↑(List.length (taS ts b).2.2.2) : Int)) && q))
theorem fmS_lt (l : List SMp) (b : Int) : fmS l b < l.length := by have := findI_lt (fun t : SMp => decide (t.1 = b)) l 0 (by omega); unfold fmS; omega
theorem wkP_ok {ts : List SPT} (h : okM ts = true) {w addr lv b : Int} {q : Bool} (hq : q = true) : wkP ts w addr lv b q = true := by
  subst hq
  unfold wkP
  rw [show len40n ts = true from decide_eq_true (okM_len h), Bool.true_and]
  by_cases hf : ftS ts b < 0
  · rw [decide_eq_true hf]; rfl
  · have hr := ft_range hf
    have hm : len40n (taS ts b).2.2.2 = true := okM_mem h (ft_getD hf)
    have hl := fmS_lt (taS ts b).2.2.2 (ixS (w, lv, addr))
    rw [decide_eq_false hf, decide_eq_true hr.1, decide_eq_true hr.2, hm]
    simp only [cond_false, Bool.true_and, Bool.and_true, Bool.and_self]
    cases (taS ts b).2.1 != w
    · cases (taS ts b).2.2.1 != lv
      · simp only [cond_false]
        by_cases hg : faS ts w addr lv b < 0
        · rw [decide_eq_true hg]; rfl
        · rw [decide_eq_false hg, decide_eq_true (show 0 ≤ faS ts w addr lv b by omega), decide_eq_true (show faS ts w addr lv b < ((List.length (taS ts b).2.2.2 : Nat) : Int) from hl)]; rfl
      · rfl
    · rfl
def wkS (ts : List SPT) (w addr : Int) : Nat → Int → Int → STr → STr × Int
  | 0, _, _, out => (out, 0)
  | n + 1, lv, b, out => wkR ts w addr lv b (wkS ts w addr n (lv - 1) (maS ts w addr lv b).2.1 (out.1, out.2.1, (maS ts w addr lv b).2.1, (maS ts w addr lv b).2.2.1, out.2.2.2.2.1 ++ [(maS ts w addr lv b).2.2.2], out.2.2.2.2.2 ++ [b]))
def wlkS (a : List SPT × SCp × Int) : STr × Int :=
  bif !tabsB a.1 then ((0, 0, 0, 0, [], []), 1) else bif !vcapB a.2.1 then ((0, 0, 0, 0, [], []), 5) else bif a.2.1.1 != 3 then ((0, 0, 0, 0, [], []), 5) else
  bif a.2.1.2.2.2.2.2.1 != (geoS a.2.1.2.2.2.2.1).1 - 1 then ((0, 0, 0, 0, [], []), 5) else bif !vaS (a.2.1.2.2.2.2.1, a.2.2) then ((0, 0, 0, 0, [], []), 6) else
  wkS a.1 a.2.1.2.2.2.2.1 a.2.2 (geoS a.2.1.2.2.2.2.1).1.toNat a.2.1.2.2.2.2.2.1 a.2.1.2.1 (a.2.1.2.1, a.2.2 / 4096, 0, 0, [], [])
theorem geo_3 (w : Int) : (geoS w).2.2.2 = true → (geoS w).1 = 2 ∨ (geoS w).1 = 3 := by
  intro h
  rcases geo_w h with rfl | rfl
  · exact .inl rfl
  · exact .inr rfl
theorem va_range {w a : Int} (h : vaS (w, a) = true) : (geoS w).2.2.2 = true ∧ 0 ≤ a ∧ a < 549755813888 := by
  obtain ⟨h1, h2⟩ := Bool.and_eq_true_iff.1 h
  obtain ⟨h2, h3⟩ := Bool.and_eq_true_iff.1 h2
  have h3 := of_decide_eq_true h3
  have h2 := of_decide_eq_true h2
  refine ⟨h1, h2, ?_⟩
  simp only at h3
  cases hd : decide (w = 32) <;> rw [hd] at h3 <;> simp only [cond_true, cond_false] at h3 <;> omega
theorem pg_s (a : Int) : a.fdiv (2 ^ min (Int.toNat 12) IntKind.i64.bits) = a / 4096 := Int.fdiv_eq_ediv_of_nonneg _ (by decide)
theorem pg_t {a : Int} (h : 0 ≤ a) (h2 : a < 549755813888) : IntKind.i64.wrap (a.tdiv 4096) = a / 4096 := by
  rw [Int.tdiv_eq_ediv_of_nonneg h]
  exact i64_id (by omega) (by omega)
theorem geoW (w : Int) : IntKind.i64.wrap ((geoS w).1 - 1) = (geoS w).1 - 1 := by
  unfold geoS
  cases decide (w = 32) <;> cases decide (w = 39) <;> rfl
section
variable (ts : List SPT) (root : SCp) (addr : Int)
theorem F_wlk_eq : F_wlk (ts, root, addr) = bif !tabsB ts then ((0, 0, 0, 0, [], []), 1) else bif !vcapB root then ((0, 0, 0, 0, [], []), 5) else bif root.1 != 3 then ((0, 0, 0, 0, [], []), 5) else bif root.2.2.2.2.2.1 != IntKind.i64.wrap ((geoS root.2.2.2.2.1).1 - 1) then ((0, 0, 0, 0, [], []), 5) else bif !vaS (root.2.2.2.2.1, addr) then ((0, 0, 0, 0, [], []), 6) else
    let p := addr.fdiv (2 ^ min (Int.toNat 12) IntKind.i64.bits)
    let w := root.2.2.2.2.1
    let l1 := root.2.2.2.2.2.1
    let l2 := IntKind.i64.wrap (l1 - 1)
    let l3 := IntKind.i64.wrap (l2 - 1)
    let l4 := IntKind.i64.wrap (l3 - 1)
    let b1 := root.2.1
    let m1 := maS ts w addr l1 b1
    let m2 := maS ts w addr l2 m1.2.1
    let m3 := maS ts w addr l3 m2.2.1
    bif decide (l1 ≥ 0) then wkF ts w addr l1 b1 (bif decide (l2 ≥ 0) then wkF ts w addr l2 m1.2.1 (bif decide (l3 ≥ 0) then wkF ts w addr l3 m2.2.1 (bif decide (l4 ≥ 0) then
        (bif !decide (ftS ts m3.2.1 ≥ 0) then z13 else bif (taS ts m3.2.1).2.1 != w then z13 else bif (taS ts m3.2.1).2.2.1 != l4 then z13 else z13)
      else ((b1, p, m3.2.1, m3.2.2.1, [m1.2.2.2] ++ [m2.2.2.2] ++ [m3.2.2.2], [b1] ++ [m1.2.1] ++ [m2.2.1]), 0)) else ((b1, p, m2.2.1, m2.2.2.1, [m1.2.2.2] ++ [m2.2.2.2], [b1] ++ [m1.2.1]), 0)) else ((b1, p, m1.2.1, m1.2.2.1, [m1.2.2.2], [b1]), 0)) else ((b1, p, 0, 0, [], []), 0) := rfl
theorem F_rwlk_eq : F_rwlk (ts, root, addr) = bif !tabsB ts then ((0, 0, 0, 0, [], []), 1) else bif !vcapB root then ((0, 0, 0, 0, [], []), 5) else bif root.1 != 3 then ((0, 0, 0, 0, [], []), 5) else bif root.2.2.2.2.2.1 != IntKind.i64.wrap ((geoS root.2.2.2.2.1).1 - 1) then ((0, 0, 0, 0, [], []), 5) else bif !vaS (root.2.2.2.2.1, addr) then ((0, 0, 0, 0, [], []), 6) else
    let p := IntKind.i64.wrap (addr.tdiv 4096)
    let w := root.2.2.2.2.1
    let l1 := root.2.2.2.2.2.1
    let l2 := IntKind.i64.wrap (l1 - 1)
    let l3 := IntKind.i64.wrap (l2 - 1)
    let l4 := IntKind.i64.wrap (l3 - 1)
    let b1 := root.2.1
    let m1 := maS ts w addr l1 b1
    let m2 := maS ts w addr l2 m1.2.1
    let m3 := maS ts w addr l3 m2.2.1
    bif decide (l1 ≥ 0) then wkR ts w addr l1 b1 (bif decide (l2 ≥ 0) then wkR ts w addr l2 m1.2.1 (bif decide (l3 ≥ 0) then wkR ts w addr l3 m2.2.1 (bif decide (l4 ≥ 0) then
        (bif decide (ftS ts m3.2.1 < 0) then z13 else bif (taS ts m3.2.1).2.1 != w then z13 else bif (taS ts m3.2.1).2.2.1 != l4 then z13 else z13)
      else ((b1, p, m3.2.1, m3.2.2.1, [] ++ [m1.2.2.2] ++ [m2.2.2.2] ++ [m3.2.2.2], [] ++ [b1] ++ [m1.2.1] ++ [m2.2.1]), 0)) else ((b1, p, m2.2.1, m2.2.2.1, [] ++ [m1.2.2.2] ++ [m2.2.2.2], [] ++ [b1] ++ [m1.2.1]), 0)) else ((b1, p, m1.2.1, m1.2.2.1, [] ++ [m1.2.2.2], [] ++ [b1]), 0)) else ((b1, p, 0, 0, [], []), 0) := rfl
end
theorem P_rwlk_eq (ts : List SPT) (root : SCp) (addr : Int) : P_rwlk (ts, root, addr) = (okM ts && bif !tabsB ts then true else bif !vcapB root then true else bif root.1 != 3 then true else bif root.2.2.2.2.2.1 != IntKind.i64.wrap ((geoS root.2.2.2.2.1).1 - 1) then true else bif !vaS (root.2.2.2.2.1, addr) then true else
    let w := root.2.2.2.2.1
    let l1 := root.2.2.2.2.2.1
    let l2 := IntKind.i64.wrap (l1 - 1)
    let l3 := IntKind.i64.wrap (l2 - 1)
    let l4 := IntKind.i64.wrap (l3 - 1)
    let b1 := root.2.1
    let m1 := maS ts w addr l1 b1
    let m2 := maS ts w addr l2 m1.2.1
    let m3 := maS ts w addr l3 m2.2.1
    bif decide (l1 ≥ 0) then wkP ts w addr l1 b1 (bif decide (l2 ≥ 0) then wkP ts w addr l2 m1.2.1 (bif decide (l3 ≥ 0) then wkP ts w addr l3 m2.2.1 (bif decide (l4 ≥ 0) then
       len40n ts && bif decide (ftS ts m3.2.1 < 0) then true else decide (0 ≤ ftS ts m3.2.1) && decide (ftS ts m3.2.1 < (↑ts.length : Int)) && bif (taS ts m3.2.1).2.1 != w then true else decide (0 ≤ ftS ts m3.2.1) && decide (ftS ts m3.2.1 < (↑ts.length : Int)) && bif (taS ts m3.2.1).2.2.1 != l4 then true else decide (0 ≤ ftS ts m3.2.1) && decide (ftS ts m3.2.1 < (↑ts.length : Int)) && (len40n (taS ts m3.2.1).2.2.2 && decide (faS ts w addr l4 m3.2.1 < 0))
      else true) else true) else true) else true) := rfl
theorem P_wlk_eq (ts : List SPT) (root : SCp) (addr : Int) : P_wlk (ts, root, addr) = P_rwlk (ts, root, addr) := by
  simp only [P_wlk, P_rwlk, ge_lt0]
theorem lv_neg {b : Int} {l : Int} (h : (l != b) = false) : l = b := by simpa using h
theorem rwlk_both : ∀ a : List SPT × SCp × Int, okM a.1 = true → P_rwlk a = true ∧ F_rwlk a = wlkS a := by
  rintro ⟨ts, root, addr⟩ h
  have h : okM ts = true := h
  rw [P_rwlk_eq, F_rwlk_eq, wlkS, h, Bool.true_and]
  simp only [geoW]
  cases hT : tabsB ts
  · exact ⟨rfl, rfl⟩
  cases hV : vcapB root
  · exact ⟨rfl, rfl⟩
  cases hK : root.1 != 3
  case true => exact ⟨rfl, rfl⟩
  cases hL : root.2.2.2.2.2.1 != (geoS root.2.2.2.2.1).1 - 1
  case true => exact ⟨rfl, rfl⟩
  cases hA : vaS (root.2.2.2.2.1, addr)
  · exact ⟨rfl, rfl⟩
  obtain ⟨hg, ha, hb⟩ := va_range hA
  have hL := lv_neg hL
  simp only [Bool.not_true, cond_false, pg_t ha hb]
  rw [hL]
  rcases geo_3 _ hg with g | g
  · rw [g]
    exact ⟨wkP_ok h (wkP_ok h rfl), rfl⟩
  · rw [g]
    exact ⟨wkP_ok h (wkP_ok h (wkP_ok h rfl)), rfl⟩
theorem F_wlk_r : ∀ a : List SPT × SCp × Int, okM a.1 = true → F_wlk a = F_rwlk a := by
  rintro ⟨ts, root, addr⟩ h
  rw [F_wlk_eq, F_rwlk_eq]
  simp only [geoW, wkF_R, ge_lt0, pg_s, List.nil_append]
  cases hA : vaS (root.2.2.2.2.1, addr)
  · rfl
  obtain ⟨hg, ha, hb⟩ := va_range hA
  simp only [pg_t ha hb]
theorem wlk_both : ∀ a : List SPT × SCp × Int, okM a.1 = true → P_wlk a = true ∧ F_wlk a = wlkS a := fun a h => by
  rw [F_wlk_r a h]
  obtain ⟨ts, root, addr⟩ := a
  rw [P_wlk_eq]
  exact rwlk_both _ h
theorem wlk_P : ∀ a : List SPT × SCp × Int, (fun a : List SPT × SCp × Int => okM a.1) a = true → P_wlk a = true := fun a h => (wlk_both a h).1
theorem wlk_F : ∀ a : List SPT × SCp × Int, (fun a : List SPT × SCp × Int => okM a.1) a = true → F_wlk a = wlkS a := fun a h => (wlk_both a h).2
theorem wlk_run : ∀ a, (fun a => okM a.1 : (List (SPT)) × SCp × Int → Bool) a = true → ∃ f, M_wlk f a = some ((wlkS : (List (SPT)) × SCp × Int → STr × Int) a) := fun a h => by have h1 := wlk_auto a (wlk_P a h); rw [wlk_F a h] at h1; exact h1
noncomputable def E_wlk : Ent := ⟨21, [.rd tSPT, .g tSCp, .c (.int .i64)], [.g tSTr, .v (.int .i64)], fun a => (fun a => okM a.1 : (List (SPT)) × SCp × Int → Bool) a, fun a => (wlkS : (List (SPT)) × SCp × Int → STr × Int) a⟩
theorem E_wlk_ok : E_wlk.Ok Try.prog := fun a hp vs hv => (wlk_run a hp).elim fun f h => fnX_ok (C := C_wlk) (Lt := Lt_wlk) (fn := Try.f21) (rs := [.cell 6 45, .tmp 7]) [.rd tSPT, .g tSCp, .c (.int .i64)] [.g tSTr, .v (.int .i64)] mixed es_wlk Try.func21 rfl rfl rfl (by kernel_rfl) (by kernel_rfl) f h vs hv
end Go.AL
/-
  Layer 16: walks, Sync and caches: models. By an AI agent.
-/
namespace Go.AL
open Go.Proofs
set_option linter.unusedVariables false
set_option linter.unusedSimpArgs false
def okL (l : List STr) : Bool := len36n l && l.all trPre
theorem okL_len {l : List STr} (h : okL l = true) : l.length ≤ 68719476736 := of_decide_eq_true (Bool.and_eq_true_iff.1 h).1
theorem okL_mem {l : List STr} (h : okL l = true) {t : STr} (ht : t ∈ l) : trPre t = true := List.all_eq_true.1 (Bool.and_eq_true_iff.1 h).2 t ht
theorem tr40 {u : STr} (h : trPre u = true) : (len40n u.2.2.2.2.1 && len40n u.2.2.2.2.2) = true := by
  obtain ⟨h1, h2⟩ := Bool.and_eq_true_iff.1 h
  have h1 : u.2.2.2.2.1.length ≤ 68719476736 := of_decide_eq_true h1
  have h2 : u.2.2.2.2.2.length ≤ 68719476736 := of_decide_eq_true h2
  rw [Bool.and_eq_true]
  exact ⟨decide_eq_true (by omega), decide_eq_true (by omega)⟩
def keepF (t u : STr) : Bool := bif u.1 != t.1 then true else u.2.1 != t.2.1
noncomputable def C_fil1 : Cfg := ⟨Try.prog, [], pmT [], 16, [], []⟩
theorem es_fil1 : EsOk Try.prog [] [] := es_nil
def Lt_fil1 : Nat → LD := ldT []
noncomputable def M_fil1 (f : Nat) (a : STr × STr) : Option (Bool) := (runX (C_fil1) Lt_fil1 (Kret Try.prog [.tmp 3] [.v (.bool)]) f [.code (bodyOf Try.f72)] (initX [.g tSTr, .cp tSTr] a) : Option (ResT [.v (.bool)]))
theorem M_fil1_eq (f : Nat) (u : STr) (t : STr) : M_fil1 (f + 1) (u, t) =
    bif u.1 != t.1 then some true else some (u.2.1 != t.2.1) := by kernel_rfl
noncomputable def F_fil1 : (STr × STr) → Bool
  | (u, t) => bif u.1 != t.1 then true else u.2.1 != t.2.1
noncomputable def P_fil1 : (STr × STr) → Bool
  | (u, t) => true
theorem fil1_auto : ∀ a : STr × STr, Rns (fun f => M_fil1 f a) (P_fil1 a) (F_fil1 a)
  | (u, t) => ev_step (fun f => M_fil1_eq f _ _) (ev_bift ev_some ev_some)
theorem fil1_P : ∀ a : STr × STr, (fun _ => true) a = true → P_fil1 a = true := fun a h => rfl
theorem fil1_F : ∀ a : STr × STr, (fun _ => true) a = true → F_fil1 a = (fun a : STr × STr => keepF a.2 a.1) a := fun a h => rfl
theorem fil1_run : ∀ a, (fun _ => true : STr × STr → Bool) a = true → ∃ f, M_fil1 f a = some ((fun a => keepF a.2 a.1 : STr × STr → Bool) a) := fun a h => by have h1 := fil1_auto a (fil1_P a h); rw [fil1_F a h] at h1; exact h1
noncomputable def E_fil1 : Ent := ⟨72, [.g tSTr, .cp tSTr], [.v (.bool)], fun a => (fun _ => true : STr × STr → Bool) a, fun a => (fun a => keepF a.2 a.1 : STr × STr → Bool) a⟩
theorem E_fil1_ok : E_fil1.Ok Try.prog := fun a hp vs hv => (fil1_run a hp).elim fun f h => fnX_ok (C := C_fil1) (Lt := Lt_fil1) (fn := Try.f72) (rs := [.tmp 3]) [.g tSTr, .cp tSTr] [.v (.bool)] mixed es_fil1 Try.func72 rfl rfl rfl (by kernel_rfl) (by kernel_rfl) f h vs hv
noncomputable def C_flf : Cfg := ⟨Try.prog, [E_ctr, E_fil1], pmT [], 24, [], []⟩
theorem es_flf : EsOk Try.prog [E_ctr, E_fil1] [] := es_cons E_ctr_ok (es_cons E_fil1_ok (es_nil))
def Lt_flf : Nat → LD := ldT [(0, ⟨[.fn 1 72 [tSTr], .list 5 999 45 6 tSTr, .rd 8 tSTr, .c 9 (.int .i64), .c 10 (.int .i64)], [], 0⟩)]
noncomputable def M_flf (f : Nat) (a : (List (STr)) × STr) : Option ((List (STr))) := (runX (C_flf) Lt_flf (Kret Try.prog [.tmp 4] [.o 45 6 tSTr]) f [.code (bodyOf Try.f71)] (initX [.rd tSTr, .fn 72 [tSTr]] a) : Option (ResT [.o 45 6 tSTr]))
noncomputable def L_flf_0 (f : Nat) (x : STr × (List (STr)) × (List (STr)) × Int × Int) : Option ((List (STr))) := (runX (C_flf) Lt_flf (Kret Try.prog [.tmp 4] [.o 45 6 tSTr]) f (headOf Try.f71 0) ((Lt_flf 0).mk' x) : Option (ResT [.o 45 6 tSTr]))
theorem M_flf_eq (f : Nat) (tlb : List (STr)) (keep : STr) : M_flf (f + 1) (tlb, keep) =
    L_flf_0 f (keep, [], tlb, (↑tlb.length : Int), 0) := by kernel_rfl
theorem L_flf_0_eq (f : Nat) (keep : STr) (out : List (STr)) (x8 : List (STr)) (x9 : Int) (x10 : Int) : L_flf_0 (f + 1) (keep, out, x8, x9, x10) =
    bif decide (x10 < x9) then bif decide (0 ≤ x10) && decide (x10 < (↑x8.length : Int)) then bif keepF keep (x8.getD x10.toNat (0, 0, 0, 0, [], [])) then bif len40n (x8.getD x10.toNat (0, 0, 0, 0, [], [])).2.2.2.2.1 && len40n (x8.getD x10.toNat (0, 0, 0, 0, [], [])).2.2.2.2.2 then bif decide ((out.length + [x8.getD x10.toNat (0, 0, 0, 0, [], [])].length) * 80 ≤ 140737488355328) then L_flf_0 f (keep, out ++ [x8.getD x10.toNat (0, 0, 0, 0, [], [])], x8, x9, IntKind.i64.wrap (x10 + 1)) else none else none else L_flf_0 f (keep, out, x8, x9, IntKind.i64.wrap (x10 + 1)) else none else some out := by kernel_rfl
noncomputable def F_flf_0 : List (STr) → (STr × (List (STr)) × (List (STr)) × Int × Nat) → (List (STr))
  | [], (keep, out, x8, x9, x10) => out
  | uu :: rest, (keep, out, x8, x9, x10) => bif keepF keep uu then F_flf_0 rest (keep, out ++ [uu], x8, x9, x10 + 1) else F_flf_0 rest (keep, out, x8, x9, x10 + 1)
noncomputable def P_flf_0 : List (STr) → (STr × (List (STr)) × (List (STr)) × Int × Nat) → Bool
  | [], (keep, out, x8, x9, x10) => true
  | uu :: rest, (keep, out, x8, x9, x10) => bif keepF keep uu then len40n uu.2.2.2.2.1 && len40n uu.2.2.2.2.2 && (decide ((out.length + [uu].length) * 80 ≤ 140737488355328) && P_flf_0 rest (keep, out ++ [uu], x8, x9, x10 + 1)) else P_flf_0 rest (keep, out, x8, x9, x10 + 1)
theorem A_flf_0 : ∀ (rest : List (STr)) (keep : STr) (out : List (STr)) (x8 : List (STr)) (x9 : Int) (x10 : Nat) (hd : x8.drop x10 = rest) (hn : x9 = ((x8.length : Nat) : Int)) (hl : x8.length ≤ 1099511627776), Rns (fun f => L_flf_0 f (keep, out, x8, x9, ((x10 : Nat) : Int))) (P_flf_0 rest (keep, out, x8, x9, x10)) (F_flf_0 rest (keep, out, x8, x9, x10))
  | [], keep, out, x8, x9, x10, hd, hn, hl => ev_step (T := fun f => some out) (fun f => (L_flf_0_eq f _ _ _ _ _).trans (by simp only [ge_decn hn (drop_ge hd), ge0, Bool.and_self, Bool.true_and, cond_true, cond_false, List.length_set] <;> rfl)) ev_some
  | uu :: rest, keep, out, x8, x9, x10, hd, hn, hl => ev_step (T := fun f => bif keepF keep uu then bif len40n uu.2.2.2.2.1 && len40n uu.2.2.2.2.2 then bif decide ((out.length + [uu].length) * 80 ≤ 140737488355328) then L_flf_0 f (keep, out ++ [uu], x8, x9, (↑(x10 + 1) : Int)) else none else none else L_flf_0 f (keep, out, x8, x9, (↑(x10 + 1) : Int))) (fun f => (L_flf_0_eq f _ _ _ _ _).trans (by simp only [lt_decn hn (drop_lt hd), lt_dec (drop_lt hd), drop_get hd, wrap_succ (drop_lt hd) hl, getD_set (drop_lt hd), ge0, Bool.and_self, Bool.true_and, cond_true, cond_false, List.length_set] <;> rfl)) (ev_bif (ev_chk (ev_chk (A_flf_0 rest _ _ _ _ _ (by first | exact drop_succ hd | exact drop_set hd | exact drop_setS (drop_set hd)) (by first | exact hn | simpa using hn) (by first | exact hl | simpa using hl)))) (A_flf_0 rest _ _ _ _ _ (by first | exact drop_succ hd | exact drop_set hd | exact drop_setS (drop_set hd)) (by first | exact hn | simpa using hn) (by first | exact hl | simpa using hl)))
noncomputable def F_flf : ((List (STr)) × STr) → (List (STr))
  | (tlb, keep) => F_flf_0 tlb (keep, [], tlb, (↑tlb.length : Int), 0)
noncomputable def P_flf : ((List (STr)) × STr) → Bool
  | (tlb, keep) => decide (tlb.length ≤ 1099511627776) && P_flf_0 tlb (keep, [], tlb, (↑tlb.length : Int), 0)
theorem flf_auto : ∀ a : (List (STr)) × STr, Rns (fun f => M_flf f a) (P_flf a) (F_flf a)
  | (tlb, keep) => ev_step (fun f => M_flf_eq f _ _) (ev_and fun hh => A_flf_0 _ _ _ _ _ _ rfl (by first | rfl | simp) (of_decide_eq_true hh))
theorem flf_0 (t : STr) (x8 : List STr) (x9 : Int) : ∀ (r out : List STr) (k : Nat), (∀ e ∈ r, trPre e = true) → out.length + r.length ≤ 68719476736 → F_flf_0 r (t, out, x8, x9, k) = out ++ r.filter (keepF t) ∧ P_flf_0 r (t, out, x8, x9, k) = true
  | [], out, k, h, hl => ⟨by simp [F_flf_0], rfl⟩
  | u :: r, out, k, h, hl => by
    simp only [List.length_cons] at hl
    have hu := tr40 (h u (List.mem_cons_self ..))
    obtain ⟨i1, i2⟩ := flf_0 t x8 x9 r (out ++ [u]) (k + 1) (fun e he => h e (List.mem_cons_of_mem _ he)) (by simp; omega)
    obtain ⟨j1, j2⟩ := flf_0 t x8 x9 r out (k + 1) (fun e he => h e (List.mem_cons_of_mem _ he)) (by omega)
    simp only [F_flf_0, P_flf_0, i1, i2, j1, j2, hu, Bool.true_and, List.filter_cons]
    cases hk : keepF t u
    · exact ⟨rfl, rfl⟩
    · simp only [cond_true, if_true, List.append_assoc, List.singleton_append, Bool.and_true, decide_eq_true_eq, true_and]
      simp only [List.length_singleton]; omega
theorem flf_P : ∀ a : List STr × STr, (fun a : List STr × STr => okL a.1) a = true → P_flf a = true := fun a h => by
  have h : okL a.1 = true := h
  simp only [P_flf, (flf_0 a.2 _ _ a.1 [] 0 (fun e he => okL_mem h he) (by simpa using okL_len h)).2, Bool.and_true]
  exact decide_eq_true (by have := okL_len h; omega)
theorem flf_F : ∀ a : List STr × STr, (fun a : List STr × STr => okL a.1) a = true → F_flf a = (fun a : List STr × STr => a.1.filter (keepF a.2)) a := fun a h => by
  have h : okL a.1 = true := h
  simp only [F_flf, (flf_0 a.2 _ _ a.1 [] 0 (fun e he => okL_mem h he) (by simpa using okL_len h)).1, List.nil_append]
theorem flf_run : ∀ a, (fun a => okL a.1 : (List (STr)) × STr → Bool) a = true → ∃ f, M_flf f a = some ((fun a => a.1.filter (keepF a.2) : (List (STr)) × STr → (List (STr))) a) := fun a h => by have h1 := flf_auto a (flf_P a h); rw [flf_F a h] at h1; exact h1
noncomputable def E_flf : Ent := ⟨71, [.rd tSTr, .fn 72 [tSTr]], [.o 45 6 tSTr], fun a => (fun a => okL a.1 : (List (STr)) × STr → Bool) a, fun a => (fun a => a.1.filter (keepF a.2) : (List (STr)) × STr → (List (STr))) a⟩
theorem E_flf_ok : E_flf.Ok Try.prog := fun a hp vs hv => (flf_run a hp).elim fun f h => fnX_ok (C := C_flf) (Lt := Lt_flf) (fn := Try.f71) (rs := [.tmp 4]) [.rd tSTr, .fn 72 [tSTr]] [.o 45 6 tSTr] mixed es_flf Try.func71 rfl rfl rfl (by kernel_rfl) (by kernel_rfl) f h vs hv
noncomputable def C_vfil : Cfg := ⟨Try.prog, [E_flf, E_ctr], pmT [], 20, [], [(13, tSTr)]⟩
theorem es_vfil : EsOk Try.prog [E_flf, E_ctr] [] := es_cons E_flf_ok (es_cons E_ctr_ok (es_nil))
def Lt_vfil : Nat → LD := ldT []
noncomputable def M_vfil (f : Nat) (a : (List (STr)) × STr) : Option ((List (STr))) := (runX (C_vfil) Lt_vfil (Kret Try.prog [.tmp 4] [.v (.sl tSTr)]) f [.code (bodyOf Try.f41)] (initX [.rd tSTr, .g tSTr] a) : Option (ResT [.v (.sl tSTr)]))
theorem M_vfil_eq (f : Nat) (tlb : List (STr)) (t : STr) : M_vfil (f + 1) (tlb, t) =
    bif okL tlb then bif len40n t.2.2.2.2.1 && len40n t.2.2.2.2.2 then bif decide (((List.filter (keepF t) tlb).length + [t].length) * 80 ≤ 140737488355328) then bif decide (0 ≤ if IntKind.i64.wrap ((↑(List.filter (keepF t) tlb ++ [t]).length : Int) - 8) > 0 then IntKind.i64.wrap ((↑(List.filter (keepF t) tlb ++ [t]).length : Int) - 8) else 0) && decide ((if IntKind.i64.wrap ((↑(List.filter (keepF t) tlb ++ [t]).length : Int) - 8) > 0 then IntKind.i64.wrap ((↑(List.filter (keepF t) tlb ++ [t]).length : Int) - 8) else 0) ≤ (↑(List.filter (keepF t) tlb ++ [t]).length : Int)) then some (List.drop (if IntKind.i64.wrap ((↑(List.filter (keepF t) tlb ++ [t]).length : Int) - 8) > 0 then IntKind.i64.wrap ((↑(List.filter (keepF t) tlb ++ [t]).length : Int) - 8) else 0).toNat (List.filter (keepF t) tlb ++ [t])) else none else none else none else none := by kernel_rfl
noncomputable def F_vfil : ((List (STr)) × STr) → (List (STr))
  | (tlb, t) => List.drop (if IntKind.i64.wrap ((↑(List.filter (keepF t) tlb ++ [t]).length : Int) - 8) > 0 then IntKind.i64.wrap ((↑(List.filter (keepF t) tlb ++ [t]).length : Int) - 8) else 0).toNat (List.filter (keepF t) tlb ++ [t])
noncomputable def P_vfil : ((List (STr)) × STr) → Bool
  | (tlb, t) => okL tlb && (len40n t.2.2.2.2.1 && len40n t.2.2.2.2.2 && (decide (((List.filter (keepF t) tlb).length + [t].length) * 80 ≤ 140737488355328) && (decide (0 ≤ if IntKind.i64.wrap ((↑(List.filter (keepF t) tlb ++ [t]).length : Int) - 8) > 0 then IntKind.i64.wrap ((↑(List.filter (keepF t) tlb ++ [t]).length : Int) - 8) else 0) && decide ((if IntKind.i64.wrap ((↑(List.filter (keepF t) tlb ++ [t]).length : Int) - 8) > 0 then IntKind.i64.wrap ((↑(List.filter (keepF t) tlb ++ [t]).length : Int) - 8) else 0) ≤ (↑(List.filter (keepF t) tlb ++ [t]).length : Int)))))
theorem vfil_auto : ∀ a : (List (STr)) × STr, Rns (fun f => M_vfil f a) (P_vfil a) (F_vfil a)
  | (tlb, t) => ev_step (fun f => M_vfil_eq f _ _) (ev_chk (ev_chk (ev_chk (ev_chk1 ev_some))))
def cutL (l : List STr) : List STr := l.drop (l.length - 8)
def filS (a : List STr × STr) : List STr := cutL (a.1.filter (keepF a.2) ++ [a.2])
def filPre (a : List STr × STr) : Bool := okL a.1 && trPre a.2
theorem cut_n (n : Nat) (h : n ≤ 68719476737) : IntKind.i64.wrap (((n : Nat) : Int) - 8) = (n : Int) - 8 := i64_id (by omega) (by omega)
theorem fil_len {a : List STr × STr} (h : okL a.1 = true) : (a.1.filter (keepF a.2) ++ [a.2]).length ≤ 68719476737 := by
  have := okL_len h
  have := List.length_filter_le (keepF a.2) a.1
  rw [List.length_append, List.length_singleton]; omega
theorem cut_d {l : List STr} : (if ((l.length : Nat) : Int) - 8 > 0 then ((l.length : Nat) : Int) - 8 else 0).toNat = l.length - 8 := by
  split <;> omega
theorem vfil_P : ∀ a : List STr × STr, filPre a = true → P_vfil a = true := fun a h => by
  obtain ⟨h1, h2⟩ := Bool.and_eq_true_iff.1 h
  have hl := okL_len h1
  have hf := List.length_filter_le (keepF a.2) a.1
  simp only [P_vfil, h1, tr40 h2, cut_n _ (fil_len h1), Bool.true_and, Bool.and_eq_true, decide_eq_true_eq, List.length_singleton]
  refine ⟨by omega, ?_, ?_⟩ <;> split <;> omega
theorem vfil_F : ∀ a : List STr × STr, filPre a = true → F_vfil a = filS a := fun a h => by
  obtain ⟨h1, h2⟩ := Bool.and_eq_true_iff.1 h
  simp only [F_vfil, cut_n _ (fil_len h1), cut_d]
  rfl
theorem vfil_run : ∀ a, (filPre : (List (STr)) × STr → Bool) a = true → ∃ f, M_vfil f a = some ((filS : (List (STr)) × STr → (List (STr))) a) := fun a h => by have h1 := vfil_auto a (vfil_P a h); rw [vfil_F a h] at h1; exact h1
noncomputable def E_vfil : Ent := ⟨41, [.rd tSTr, .g tSTr], [.v (.sl tSTr)], fun a => (filPre : (List (STr)) × STr → Bool) a, fun a => (filS : (List (STr)) × STr → (List (STr))) a⟩
theorem E_vfil_ok : E_vfil.Ok Try.prog := fun a hp vs hv => (vfil_run a hp).elim fun f h => fnX_ok (C := C_vfil) (Lt := Lt_vfil) (fn := Try.f41) (rs := [.tmp 4]) [.rd tSTr, .g tSTr] [.v (.sl tSTr)] mixed es_vfil Try.func41 rfl rfl rfl (by kernel_rfl) (by kernel_rfl) f h vs hv
end Go.AL
/-
  Layer 16: walks, Sync and caches: models. By an AI agent.
-/
namespace Go.AL
open Go.Proofs
set_option linter.unusedVariables false
set_option linter.unusedSimpArgs false
def lokS (a : List STr × Int × Int) : STr × Bool := match a.1.find? (fun t => decide (t.1 = a.2.1) && decide (t.2.1 = a.2.2)) with
  | some t => (t, true)
  | none => ((0, 0, 0, 0, [], []), false)
theorem lokS_cons (u : STr) (r : List STr) (x y : Int) : lokS (u :: r, x, y) = bif u.1 == x then bif u.2.1 == y then (u, true) else lokS (r, x, y) else lokS (r, x, y) := by
  simp only [lokS, List.find?_cons, beqI]
  cases decide (u.1 = x) <;> cases decide (u.2.1 = y) <;> rfl
noncomputable def C_look : Cfg := ⟨Try.prog, [E_ctr], pmT [], 30, [], []⟩
theorem es_look : EsOk Try.prog [E_ctr] [] := es_cons E_ctr_ok (es_nil)
def Lt_look : Nat → LD := ldT [(0, ⟨[.c 1 (.int .i64), .c 2 (.int .i64), .box 6 6 45 6 tSTr, .rd 10 tSTr, .c 11 (.int .i64), .c 12 (.int .i64)], [], 0⟩)]
noncomputable def M_look (f : Nat) (a : (List (STr)) × Int × Int) : Option (STr × Bool) := (runX (C_look) Lt_look (Kret Try.prog [.cell 6 45, .tmp 7] [.g tSTr, .v (.bool)]) f [.code (bodyOf Try.f36)] (initX [.rd tSTr, .c (.int .i64), .c (.int .i64)] a) : Option (ResT [.g tSTr, .v (.bool)]))
noncomputable def L_look_0 (f : Nat) (x : Int × Int × STr × (List (STr)) × Int × Int) : Option (STr × Bool) := (runX (C_look) Lt_look (Kret Try.prog [.cell 6 45, .tmp 7] [.g tSTr, .v (.bool)]) f (headOf Try.f36 0) ((Lt_look 0).mk' x) : Option (ResT [.g tSTr, .v (.bool)]))
theorem M_look_eq (f : Nat) (tlb : List (STr)) (root : Int) (page : Int) : M_look (f + 1) (tlb, root, page) =
    L_look_0 f (root, page, (0, 0, 0, 0, [], []), tlb, (↑tlb.length : Int), 0) := by kernel_rfl
theorem L_look_0_eq (f : Nat) (root : Int) (page : Int) (x6 : STr) (x10 : List (STr)) (x11 : Int) (x12 : Int) : L_look_0 (f + 1) (root, page, x6, x10, x11, x12) =
    bif decide (x12 < x11) then bif decide (0 ≤ x12) && decide (x12 < (↑x10.length : Int)) then bif (x10.getD x12.toNat (0, 0, 0, 0, [], [])).1 == root then bif (x10.getD x12.toNat (0, 0, 0, 0, [], [])).2.1 == page then bif len40n (x10.getD x12.toNat (0, 0, 0, 0, [], [])).2.2.2.2.1 && len40n (x10.getD x12.toNat (0, 0, 0, 0, [], [])).2.2.2.2.2 then some (x10.getD x12.toNat (0, 0, 0, 0, [], []), true) else none else L_look_0 f (root, page, x6, x10, x11, IntKind.i64.wrap (x12 + 1)) else L_look_0 f (root, page, x6, x10, x11, IntKind.i64.wrap (x12 + 1)) else none else some ((0, 0, 0, 0, [], []), false) := by kernel_rfl
noncomputable def F_look_0 : List (STr) → (Int × Int × STr × (List (STr)) × Int × Nat) → STr × Bool
  | [], (root, page, x6, x10, x11, x12) => ((0, 0, 0, 0, [], []), false)
  | uu :: rest, (root, page, x6, x10, x11, x12) => bif uu.1 == root then bif uu.2.1 == page then (uu, true) else F_look_0 rest (root, page, x6, x10, x11, x12 + 1) else F_look_0 rest (root, page, x6, x10, x11, x12 + 1)
noncomputable def P_look_0 : List (STr) → (Int × Int × STr × (List (STr)) × Int × Nat) → Bool
  | [], (root, page, x6, x10, x11, x12) => true
  | uu :: rest, (root, page, x6, x10, x11, x12) => bif uu.1 == root then bif uu.2.1 == page then len40n uu.2.2.2.2.1 && len40n uu.2.2.2.2.2 else P_look_0 rest (root, page, x6, x10, x11, x12 + 1) else P_look_0 rest (root, page, x6, x10, x11, x12 + 1)
theorem A_look_0 : ∀ (rest : List (STr)) (root : Int) (page : Int) (x6 : STr) (x10 : List (STr)) (x11 : Int) (x12 : Nat) (hd : x10.drop x12 = rest) (hn : x11 = ((x10.length : Nat) : Int)) (hl : x10.length ≤ 1099511627776), Rns (fun f => L_look_0 f (root, page, x6, x10, x11, ((x12 : Nat) : Int))) (P_look_0 rest (root, page, x6, x10, x11, x12)) (F_look_0 rest (root, page, x6, x10, x11, x12))
  | [], root, page, x6, x10, x11, x12, hd, hn, hl => ev_step (T := fun f => some ((0, 0, 0, 0, [], []), false)) (fun f => (L_look_0_eq f _ _ _ _ _ _).trans (by simp only [ge_decn hn (drop_ge hd), ge0, Bool.and_self, Bool.true_and, cond_true, cond_false, List.length_set] <;> rfl)) ev_some
  | uu :: rest, root, page, x6, x10, x11, x12, hd, hn, hl => ev_step (T := fun f => bif uu.1 == root then bif uu.2.1 == page then bif len40n uu.2.2.2.2.1 && len40n uu.2.2.2.2.2 then some (uu, true) else none else L_look_0 f (root, page, x6, x10, x11, (↑(x12 + 1) : Int)) else L_look_0 f (root, page, x6, x10, x11, (↑(x12 + 1) : Int))) (fun f => (L_look_0_eq f _ _ _ _ _ _).trans (by simp only [lt_decn hn (drop_lt hd), lt_dec (drop_lt hd), drop_get hd, wrap_succ (drop_lt hd) hl, getD_set (drop_lt hd), ge0, Bool.and_self, Bool.true_and, cond_true, cond_false, List.length_set] <;> rfl)) (ev_bif (ev_bif (ev_chk1 ev_some) (A_look_0 rest _ _ _ _ _ _ (by first | exact drop_succ hd | exact drop_set hd | exact drop_setS (drop_set hd)) (by first | exact hn | simpa using hn) (by first | exact hl | simpa using hl))) (A_look_0 rest _ _ _ _ _ _ (by first | exact drop_succ hd | exact drop_set hd | exact drop_setS (drop_set hd)) (by first | exact hn | simpa using hn) (by first | exact hl | simpa using hl)))
noncomputable def F_look : ((List (STr)) × Int × Int) → STr × Bool
  | (tlb, root, page) => F_look_0 tlb (root, page, (0, 0, 0, 0, [], []), tlb, (↑tlb.length : Int), 0)
noncomputable def P_look : ((List (STr)) × Int × Int) → Bool
  | (tlb, root, page) => decide (tlb.length ≤ 1099511627776) && P_look_0 tlb (root, page, (0, 0, 0, 0, [], []), tlb, (↑tlb.length : Int), 0)
theorem look_auto : ∀ a : (List (STr)) × Int × Int, Rns (fun f => M_look f a) (P_look a) (F_look a)
  | (tlb, root, page) => ev_step (fun f => M_look_eq f _ _ _) (ev_and fun hh => A_look_0 _ _ _ _ _ _ _ rfl (by first | rfl | simp) (of_decide_eq_true hh))
theorem look_0 (x y : Int) (a6 : STr) (a10 : List STr) (a11 : Int) : ∀ (r : List STr) (k : Nat), (∀ e ∈ r, trPre e = true) → F_look_0 r (x, y, a6, a10, a11, k) = lokS (r, x, y) ∧ P_look_0 r (x, y, a6, a10, a11, k) = true
  | [], k, h => ⟨rfl, rfl⟩
  | u :: r, k, h => by
    obtain ⟨i1, i2⟩ := look_0 x y a6 a10 a11 r (k + 1) (fun e he => h e (List.mem_cons_of_mem _ he))
    have hu := tr40 (h u (List.mem_cons_self ..))
    simp only [F_look_0, P_look_0, i1, i2, lokS_cons, hu]
    cases u.1 == x <;> cases u.2.1 == y <;> first | exact ⟨rfl, trivial⟩ | exact ⟨trivial, trivial⟩ | exact ⟨trivial, rfl⟩ | exact ⟨rfl, rfl⟩
theorem look_P : ∀ a : List STr × Int × Int, (fun a : List STr × Int × Int => okL a.1) a = true → P_look a = true := fun a h => by
  have h : okL a.1 = true := h
  simp only [P_look, (look_0 a.2.1 a.2.2 _ _ _ a.1 0 (fun e he => okL_mem h he)).2, Bool.and_true]
  exact decide_eq_true (by have := okL_len h; omega)
theorem look_F : ∀ a : List STr × Int × Int, (fun a : List STr × Int × Int => okL a.1) a = true → F_look a = lokS a := fun a h => by
  have h : okL a.1 = true := h
  simp only [F_look, (look_0 a.2.1 a.2.2 _ _ _ a.1 0 (fun e he => okL_mem h he)).1]
theorem look_run : ∀ a, (fun a => okL a.1 : (List (STr)) × Int × Int → Bool) a = true → ∃ f, M_look f a = some ((lokS : (List (STr)) × Int × Int → STr × Bool) a) := fun a h => by have h1 := look_auto a (look_P a h); rw [look_F a h] at h1; exact h1
noncomputable def E_look : Ent := ⟨36, [.rd tSTr, .c (.int .i64), .c (.int .i64)], [.g tSTr, .v (.bool)], fun a => (fun a => okL a.1 : (List (STr)) × Int × Int → Bool) a, fun a => (lokS : (List (STr)) × Int × Int → STr × Bool) a⟩
theorem E_look_ok : E_look.Ok Try.prog := fun a hp vs hv => (look_run a hp).elim fun f h => fnX_ok (C := C_look) (Lt := Lt_look) (fn := Try.f36) (rs := [.cell 6 45, .tmp 7]) [.rd tSTr, .c (.int .i64), .c (.int .i64)] [.g tSTr, .v (.bool)] mixed es_look Try.func36 rfl rfl rfl (by kernel_rfl) (by kernel_rfl) f h vs hv
end Go.AL
/-
  Layer 16: what the laws share; awake holds. By an AI agent.
-/
namespace Go.AL
open Go.Proofs
set_option linter.unusedVariables false
set_option linter.unusedSimpArgs false
def tcapS (n : Int) : SCp := [((3, 4096, 12, 7, 32, 1, false) : SCp), (3, 8192, 12, 7, 32, 0, false), (3, 12288, 12, 7, 32, 0, false), (3, 16384, 12, 7, 32, 1, false)].getD (place (n, 4)).toNat (0, 0, 0, 0, 0, 0, false)
theorem place_r (n k : Int) (hk : 0 < k) : 0 ≤ place (n, k) ∧ place (n, k) < k := by
  simp only [place]
  rw [decide_eq_false (by omega), cond_false]
  exact ⟨Int.emod_nonneg _ (by omega), Int.emod_lt_of_pos _ hk⟩
noncomputable def C_tcap : Cfg := ⟨Try.prog, [E_top, E_low, E_place], pmT [], 14, [], []⟩
theorem es_tcap : EsOk Try.prog [E_top, E_low, E_place] [] := es_cons E_top_ok (es_cons E_low_ok (es_cons E_place_ok (es_nil)))
def Lt_tcap : Nat → LD := ldT []
noncomputable def M_tcap (f : Nat) (a : Int) : Option (SCp) := (runX (C_tcap) Lt_tcap (Kret Try.prog [.cell 2 25] [.g tSCp]) f [.code (bodyOf Try.f16)] (initX [.c (.int .i64)] a) : Option (ResT [.g tSCp]))
theorem M_tcap_eq (f : Nat) (n : Int) : M_tcap (f + 1) n =
    bif decide (0 ≤ place (n, 4)) && decide (place (n, 4) < (↑[(3, 4096, 12, 7, 32, 1, false), (3, 8192, 12, 7, 32, 0, false), (3, 12288, 12, 7, 32, 0, false), (3, 16384, 12, 7, 32, 1, false)].length : Int)) then some ([(3, 4096, 12, 7, 32, 1, false), (3, 8192, 12, 7, 32, 0, false), (3, 12288, 12, 7, 32, 0, false), (3, 16384, 12, 7, 32, 1, false)].getD (place (n, 4)).toNat (0, 0, 0, 0, 0, 0, false)) else none := by kernel_rfl
noncomputable def F_tcap : Int → SCp
  | n => [(3, 4096, 12, 7, 32, 1, false), (3, 8192, 12, 7, 32, 0, false), (3, 12288, 12, 7, 32, 0, false), (3, 16384, 12, 7, 32, 1, false)].getD (place (n, 4)).toNat (0, 0, 0, 0, 0, 0, false)
noncomputable def P_tcap : Int → Bool
  | n => decide (0 ≤ place (n, 4)) && decide (place (n, 4) < (↑[(3, 4096, 12, 7, 32, 1, false), (3, 8192, 12, 7, 32, 0, false), (3, 12288, 12, 7, 32, 0, false), (3, 16384, 12, 7, 32, 1, false)].length : Int))
theorem tcap_auto : ∀ a : Int, Rns (fun f => M_tcap f a) (P_tcap a) (F_tcap a)
  | n => ev_step (fun f => M_tcap_eq f _) (ev_chk1 ev_some)
theorem tcap_P : ∀ n : Int, (fun _ => true) n = true → P_tcap n = true := fun n _ => by
  obtain ⟨h1, h2⟩ := place_r n 4 (by omega)
  simp only [P_tcap, decide_eq_true h1, Bool.true_and, decide_eq_true_eq]
  exact h2
theorem tcap_F : ∀ n : Int, (fun _ => true) n = true → F_tcap n = tcapS n := fun n _ => rfl
theorem tcap_run : ∀ a, (fun _ => true : Int → Bool) a = true → ∃ f, M_tcap f a = some ((tcapS : Int → SCp) a) := fun a h => by have h1 := tcap_auto a (tcap_P a h); rw [tcap_F a h] at h1; exact h1
noncomputable def E_tcap : Ent := ⟨16, [.c (.int .i64)], [.g tSCp], fun a => (fun _ => true : Int → Bool) a, fun a => (tcapS : Int → SCp) a⟩
theorem E_tcap_ok : E_tcap.Ok Try.prog := fun a hp vs hv => (tcap_run a hp).elim fun f h => fnX_ok (C := C_tcap) (Lt := Lt_tcap) (fn := Try.f16) (rs := [.cell 2 25]) [.c (.int .i64)] [.g tSCp] mixed es_tcap Try.func16 rfl rfl rfl (by kernel_rfl) (by kernel_rfl) f h vs hv
def mnodS (n : Int) : SNd := bif decide (place (n, 8) < 4) then (0, place (n, 8) + 1, 0, [], tcapS (place (n, 8))) else (0, place (n, 8) + 1, 0, [], 2, place (n, 8) * 4096, 12, 3, 0, 0, false)
noncomputable def C_mnod : Cfg := ⟨Try.prog, [E_place, E_page, E_tcap], pmT [], 23, [], []⟩
theorem es_mnod : EsOk Try.prog [E_place, E_page, E_tcap] [] := es_cons E_place_ok (es_cons E_page_ok (es_cons E_tcap_ok (es_nil)))
def Lt_mnod : Nat → LD := ldT []
noncomputable def M_mnod (f : Nat) (a : Int) : Option (SNd) := (runX (C_mnod) Lt_mnod (Kret Try.prog [.cell 2 42] [.g tSNd]) f [.code (bodyOf Try.f29)] (initX [.c (.int .i64)] a) : Option (ResT [.g tSNd]))
theorem M_mnod_eq (f : Nat) (n : Int) : M_mnod (f + 1) n =
    bif decide (place (n, 8) < 4) then some (0, IntKind.i64.wrap (1 + place (n, 8)), 0, [], tcapS (place (n, 8))) else some (0, IntKind.i64.wrap (1 + place (n, 8)), 0, [], 2, IntKind.i64.wrap (place (n, 8) * 2 ^ min (Int.toNat 12) IntKind.i64.bits), 12, 3, 0, 0, false) := by kernel_rfl
noncomputable def F_mnod : Int → SNd
  | n => bif decide (place (n, 8) < 4) then (0, IntKind.i64.wrap (1 + place (n, 8)), 0, [], tcapS (place (n, 8))) else (0, IntKind.i64.wrap (1 + place (n, 8)), 0, [], 2, IntKind.i64.wrap (place (n, 8) * 2 ^ min (Int.toNat 12) IntKind.i64.bits), 12, 3, 0, 0, false)
noncomputable def P_mnod : Int → Bool
  | n => true
theorem mnod_auto : ∀ a : Int, Rns (fun f => M_mnod f a) (P_mnod a) (F_mnod a)
  | n => ev_step (fun f => M_mnod_eq f _) (ev_bift ev_some ev_some)
theorem mnod_P : ∀ n : Int, (fun _ => true) n = true → P_mnod n = true := fun n _ => rfl
theorem mnod_F : ∀ n : Int, (fun _ => true) n = true → F_mnod n = mnodS n := fun n _ => by
  obtain ⟨h1, h2⟩ := place_r n 8 (by omega)
  have e1 : IntKind.i64.wrap (1 + place (n, 8)) = place (n, 8) + 1 := by rw [i64_id (by omega) (by omega)]; omega
  have e2 : IntKind.i64.wrap (place (n, 8) * 2 ^ min (Int.toNat 12) IntKind.i64.bits) = place (n, 8) * 4096 := by
    rw [show place (n, 8) * 2 ^ min (Int.toNat 12) IntKind.i64.bits = place (n, 8) * 4096 from rfl]; exact i64_id (by omega) (by omega)
  simp only [F_mnod, mnodS, e1, e2]
theorem mnod_run : ∀ a, (fun _ => true : Int → Bool) a = true → ∃ f, M_mnod f a = some ((mnodS : Int → SNd) a) := fun a h => by have h1 := mnod_auto a (mnod_P a h); rw [mnod_F a h] at h1; exact h1
noncomputable def E_mnod : Ent := ⟨29, [.c (.int .i64)], [.g tSNd], fun a => (fun _ => true : Int → Bool) a, fun a => (mnodS : Int → SNd) a⟩
theorem E_mnod_ok : E_mnod.Ok Try.prog := fun a hp vs hv => (mnod_run a hp).elim fun f h => fnX_ok (C := C_mnod) (Lt := Lt_mnod) (fn := Try.f29) (rs := [.cell 2 42]) [.c (.int .i64)] [.g tSNd] mixed es_mnod Try.func29 rfl rfl rfl (by kernel_rfl) (by kernel_rfl) f h vs hv
noncomputable def C_awk : Cfg := ⟨Try.prog, [E_top, E_low, E_vmap, E_page, E_wlk, E_vfil], pmT [], 67, [], []⟩
theorem es_awk : EsOk Try.prog [E_top, E_low, E_vmap, E_page, E_wlk, E_vfil] [] := es_cons E_top_ok (es_cons E_low_ok (es_cons E_vmap_ok (es_cons E_page_ok (es_cons E_wlk_ok (es_cons E_vfil_ok (es_nil))))))
def Lt_awk : Nat → LD := ldT []
noncomputable def M_awk (f : Nat) (a : Unit) : Option (Bool) := (runX (C_awk) Lt_awk (Kret Try.prog [.tmp 0] [.v (.bool)]) f [.code (bodyOf Try.f12)] (initX [] a) : Option (ResT [.v (.bool)]))
theorem M_awk_eq (f : Nat)  : M_awk (f + 1) () =
    some ((↑(filS ([], (wlkS ((Go.Proofs.mapS ((Go.Proofs.mapS ([], (3, 4096, 12, 7, 32, 1, false), 0, (0, 1, 0, [], 3, 8192, 12, 7, 32, 0, false), 7)).1, (3, 8192, 12, 7, 32, 0, false), 3, (0, 2, 0, [], 2, 1048576, 12, 3, 0, 0, false), 1)).1, (3, 4096, 12, 7, 32, 1, false), 12293)).1)).length : Int) == 1) := by kernel_rfl
noncomputable def F_awk : Unit → Bool
  | () => (↑(filS ([], (wlkS ((Go.Proofs.mapS ((Go.Proofs.mapS ([], (3, 4096, 12, 7, 32, 1, false), 0, (0, 1, 0, [], 3, 8192, 12, 7, 32, 0, false), 7)).1, (3, 8192, 12, 7, 32, 0, false), 3, (0, 2, 0, [], 2, 1048576, 12, 3, 0, 0, false), 1)).1, (3, 4096, 12, 7, 32, 1, false), 12293)).1)).length : Int) == 1
noncomputable def P_awk : Unit → Bool
  | () => true
theorem awk_auto : ∀ a : Unit, Rns (fun f => M_awk f a) (P_awk a) (F_awk a)
  | () => ev_step (fun f => M_awk_eq f ) ev_some
theorem awk_t : F_awk () = true := by decide +kernel
theorem awk_P : ∀ a : Unit, (fun _ => true) a = true → P_awk a = true := fun _ _ => rfl
theorem awk_F : ∀ a : Unit, (fun _ => true) a = true → F_awk a = (fun _ => true) a := fun _ _ => awk_t
theorem awk_run : ∀ a, (fun _ => true : Unit → Bool) a = true → ∃ f, M_awk f a = some ((fun _ => true : Unit → Bool) a) := fun a h => by have h1 := awk_auto a (awk_P a h); rw [awk_F a h] at h1; exact h1
noncomputable def E_awk : Ent := ⟨12, [], [.v (.bool)], fun a => (fun _ => true : Unit → Bool) a, fun a => (fun _ => true : Unit → Bool) a⟩
theorem E_awk_ok : E_awk.Ok Try.prog := fun a hp vs hv => (awk_run a hp).elim fun f h => fnX_ok (C := C_awk) (Lt := Lt_awk) (fn := Try.f12) (rs := [.tmp 0]) [] [.v (.bool)] mixed es_awk Try.func12 rfl rfl rfl (by kernel_rfl) (by kernel_rfl) f h vs hv
def okN (n : Nat) (l : List SPT) : Bool := decide (l.length ≤ n) && l.all fun t => decide (t.2.2.2.length ≤ n)
theorem okN_len {n : Nat} {l : List SPT} (h : okN n l = true) : l.length ≤ n := of_decide_eq_true (Bool.and_eq_true_iff.1 h).1
theorem okN_mem {n : Nat} {l : List SPT} (h : okN n l = true) {t : SPT} (ht : t ∈ l) : t.2.2.2.length ≤ n := of_decide_eq_true (List.all_eq_true.1 (Bool.and_eq_true_iff.1 h).2 t ht)
theorem okN_mk {n : Nat} {l : List SPT} (h : l.length ≤ n) (h2 : ∀ t ∈ l, t.2.2.2.length ≤ n) : okN n l = true := by
  unfold okN
  rw [Bool.and_eq_true]
  exact ⟨decide_eq_true h, List.all_eq_true.2 fun t ht => decide_eq_true (h2 t ht)⟩
theorem okN_okT {n : Nat} (hn : n ≤ 68719476736) {l : List SPT} (h : okN n l = true) : okT l = true := by
  unfold okT
  rw [Bool.and_eq_true]
  exact ⟨decide_eq_true (Nat.le_trans (okN_len h) hn), List.all_eq_true.2 fun t ht => decide_eq_true (Nat.le_trans (okN_mem h ht) hn)⟩
theorem okN_le {n m : Nat} (hn : n ≤ m) {l : List SPT} (h : okN n l = true) : okN m l = true := okN_mk (Nat.le_trans (okN_len h) hn) fun t ht => Nat.le_trans (okN_mem h ht) hn
theorem bif_p {α : Type} {P : α → Prop} {c : Bool} {x y : α} (hx : P x) (hy : P y) : P (bif c then x else y) := by cases c; exact hy; exact hx
theorem bif_pn {α : Type} {P : α → Prop} {c : Bool} {x y : α} (hx : P x) (hy : c = false → P y) : P (bif c then x else y) := by cases c; exact hy rfl; exact hx
end Go.AL
/-
  Layer 16: what the laws share. By an AI agent.
-/
namespace Go.AL
open Go.Proofs
set_option linter.unusedVariables false
set_option linter.unusedSimpArgs false
theorem insAt_len {α : Type} (l : List α) (k : Nat) (x : α) : (insAt l k x).length = l.length + 1 := by
  unfold insAt
  rw [List.length_append, List.length_append, List.length_take, List.length_drop, List.length_singleton]; omega
theorem insAt_mem {α : Type} {l : List α} {k : Nat} {x y : α} (h : y ∈ insAt l k x) : y = x ∨ y ∈ l := by
  unfold insAt at h
  rcases List.mem_append.1 h with h | h
  · rcases List.mem_append.1 h with h | h
    · exact .inr (List.mem_of_mem_take h)
    · exact .inl (List.mem_singleton.1 h)
  · exact .inr (List.mem_of_mem_drop h)
theorem mapS_okN {n : Nat} (a : List SPT × SCp × Int × SNd × Int) (h : okN n a.1 = true) : okN (n + 1) (mapS a).1 = true := by
  have h0 : (fun r : List SPT × Int => okN (n + 1) r.1 = true) ([], 0) := okN_mk (by simp) (by simp)
  have hl := okN_len h
  have B : ∀ {c : Bool} {x y : List SPT × Int}, okN (n + 1) x.1 = true → okN (n + 1) y.1 = true → okN (n + 1) (bif c then x else y).1 = true := fun hx hy => bif_p (P := fun r : List SPT × Int => okN (n + 1) r.1 = true) hx hy
  unfold mapS
  refine B h0 (B h0 (B h0 (B h0 (B h0 (B h0 (B h0 (B ?_ (B h0 ?_))))))))
  · refine okN_mk (by show (insAt _ _ _).length ≤ _; rw [insAt_len]; omega) fun t ht => ?_
    rcases insAt_mem ht with rfl | ht
    · show 1 ≤ n + 1; omega
    · exact Nat.le_succ_of_le (okN_mem h ht)
  · refine okN_mk (by show (List.set _ _ _).length ≤ _; rw [List.length_set]; omega) fun t ht => ?_
    rcases List.mem_or_eq_of_mem_set ht with ht | rfl
    · exact Nat.le_succ_of_le (okN_mem h ht)
    · show (insAt _ _ _).length ≤ _
      rw [insAt_len]
      have : (Ns.maps (a.1.getD (ftS a.1 a.2.1.2.1).toNat zPT)).length ≤ n := by
        by_cases hk : (ftS a.1 a.2.1.2.1).toNat < a.1.length
        · rw [List.getD_eq_getElem?_getD, List.getElem?_eq_getElem hk]
          exact okN_mem h (List.getElem_mem hk)
        · rw [List.getD_eq_getElem?_getD, List.getElem?_eq_none (by omega)]; exact Nat.zero_le _
      omega
theorem unmS_okN {n : Nat} (a : List SPT × SCp × Int) (h : okN n a.1 = true) : okN n (unmS a).1 = true := by
  have h0 : okN n ([] : List SPT) = true := okN_mk (by simp) (by simp)
  have hl := okN_len h
  have B : ∀ {c : Bool} {x y : List SPT × SId × Int}, okN n x.1 = true → okN n y.1 = true → okN n (bif c then x else y).1 = true := fun hx hy => bif_p (P := fun r : List SPT × SId × Int => okN n r.1 = true) hx hy
  have B2 : ∀ {c : Bool} {x y : List SPT × SId × Int}, okN n x.1 = true → (c = false → okN n y.1 = true) → okN n (bif c then x else y).1 = true := fun hx hy => bif_pn (P := fun r : List SPT × SId × Int => okN n r.1 = true) hx hy
  unfold unmS
  refine B h0 (B h0 (B h0 (B2 h0 fun hf => B h0 ?_)))
  have hf : ¬ ftS a.1 a.2.1.2.1 < 0 := of_decide_eq_false hf
  have hk := ft_range hf
  have ht := okN_mem h (ft_getD hf)
  unfold unmE
  refine B ?_ ?_
  · refine okN_mk ?_ fun t ht => ?_
    · show (List.take _ _ ++ List.drop _ _).length ≤ n
      rw [List.length_append, List.length_take, List.length_drop]; omega
    · rcases List.mem_append.1 ht with ht | ht
      · exact okN_mem h (List.mem_of_mem_take ht)
      · exact okN_mem h (List.mem_of_mem_drop ht)
  · refine okN_mk ?_ fun t ht => ?_
    · show (List.take _ _ ++ _ :: List.drop _ _).length ≤ n
      rw [List.length_append, List.length_take, List.length_cons, List.length_drop]; omega
    · rcases List.mem_append.1 ht with ht | ht
      · exact okN_mem h (List.mem_of_mem_take ht)
      · rcases List.mem_cons.1 ht with rfl | ht
        · refine Nat.le_trans ?_ (okN_mem h (ft_getD hf))
          show (delAt _ _).length ≤ _
          unfold delAt
          rw [List.length_append, List.length_take, List.length_drop]
          show _ ≤ (Ns.maps _).length
          omega
        · exact okN_mem h (List.mem_of_mem_drop ht)
theorem wkS_len (ts : List SPT) (w addr : Int) : ∀ (n : Nat) (lv b : Int) (out : STr), (wkS ts w addr n lv b out).1.2.2.2.2.1.length ≤ out.2.2.2.2.1.length + n ∧ (wkS ts w addr n lv b out).1.2.2.2.2.2.length ≤ out.2.2.2.2.2.length + n
  | 0, lv, b, out => ⟨Nat.le_refl _, Nat.le_refl _⟩
  | n + 1, lv, b, out => by
    have h0 : (z13.1.2.2.2.2.1.length ≤ out.2.2.2.2.1.length + (n + 1)) ∧ (z13.1.2.2.2.2.2.length ≤ out.2.2.2.2.2.length + (n + 1)) := ⟨Nat.zero_le _, Nat.zero_le _⟩
    have B : ∀ {c : Bool} {x y : STr × Int}, (x.1.2.2.2.2.1.length ≤ out.2.2.2.2.1.length + (n + 1) ∧ x.1.2.2.2.2.2.length ≤ out.2.2.2.2.2.length + (n + 1)) → (y.1.2.2.2.2.1.length ≤ out.2.2.2.2.1.length + (n + 1) ∧ y.1.2.2.2.2.2.length ≤ out.2.2.2.2.2.length + (n + 1)) → ((bif c then x else y).1.2.2.2.2.1.length ≤ out.2.2.2.2.1.length + (n + 1) ∧ (bif c then x else y).1.2.2.2.2.2.length ≤ out.2.2.2.2.2.length + (n + 1)) := fun {c} {x} {y} hx hy => by cases c; exact hy; exact hx
    show (wkR _ _ _ _ _ _).1.2.2.2.2.1.length ≤ _ ∧ (wkR _ _ _ _ _ _).1.2.2.2.2.2.length ≤ _
    unfold wkR
    refine B h0 (B h0 (B h0 (B h0 ?_)))
    obtain ⟨i1, i2⟩ := wkS_len ts w addr n (lv - 1) (maS ts w addr lv b).2.1 (out.1, out.2.1, (maS ts w addr lv b).2.1, (maS ts w addr lv b).2.2.1, out.2.2.2.2.1 ++ [(maS ts w addr lv b).2.2.2], out.2.2.2.2.2 ++ [b])
    simp only [List.length_append, List.length_singleton] at i1 i2
    exact ⟨by omega, by omega⟩
theorem wlkS_len (a : List SPT × SCp × Int) : (wlkS a).1.2.2.2.2.1.length ≤ 3 ∧ (wlkS a).1.2.2.2.2.2.length ≤ 3 := by
  have B : ∀ {c : Bool} {x y : STr × Int}, (x.1.2.2.2.2.1.length ≤ 3 ∧ x.1.2.2.2.2.2.length ≤ 3) → (y.1.2.2.2.2.1.length ≤ 3 ∧ y.1.2.2.2.2.2.length ≤ 3) → ((bif c then x else y).1.2.2.2.2.1.length ≤ 3 ∧ (bif c then x else y).1.2.2.2.2.2.length ≤ 3) := fun {c} {x} {y} hx hy => by cases c; exact hy; exact hx
  have h0 : ([] : List SId).length ≤ 3 ∧ ([] : List Int).length ≤ 3 := ⟨by simp, by simp⟩
  unfold wlkS
  refine B h0 (B h0 (B h0 (B h0 (B h0 ?_))))
  have hg : (geoS a.2.1.2.2.2.2.1).1.toNat ≤ 3 := by
    unfold geoS
    cases decide (a.2.1.2.2.2.2.1 = 32) <;> cases decide (a.2.1.2.2.2.2.1 = 39) <;> decide
  obtain ⟨i1, i2⟩ := wkS_len a.1 a.2.1.2.2.2.2.1 a.2.2 (geoS a.2.1.2.2.2.2.1).1.toNat a.2.1.2.2.2.2.2.1 a.2.1.2.1 (a.2.1.2.1, a.2.2 / 4096, 0, 0, [], [])
  simp only [List.length_nil] at i1 i2
  exact ⟨by omega, by omega⟩
theorem wlkS_pre (a : List SPT × SCp × Int) : trPre (wlkS a).1 = true := by
  obtain ⟨h1, h2⟩ := wlkS_len a
  unfold trPre
  rw [Bool.and_eq_true]
  exact ⟨decide_eq_true (by omega), decide_eq_true (by omega)⟩
end Go.AL
/-
  Layer 16: plain laws of valid page tables: Map keeps them valid, Unmap undoes it. By an AI agent.
-/
namespace Go.AL
open Go.Proofs
set_option linter.unusedVariables false
set_option linter.unusedSimpArgs false
/-! ### Valid page tables -/
def okmB (t : SPT) (m : SMp) : Bool := !decide (m.1 ≥ lim t.2.1) && (vidB m.2.2.2 && (palS m.2.1 && (!decide (m.2.2.1 < 0) && (!decide (m.2.2.1 > 3) && (decide (t.2.2.1 = 0) || decide (m.2.2.1 = 0))))))
theorem mapsOK_iff (t : SPT) : ∀ (r : List SMp) (last : Int), mapsOK t r last = true ↔ (∀ m ∈ r, last < m.1 ∧ okmB t m = true) ∧ r.Pairwise (fun a b => a.1 < b.1)
  | [], last => by simp [mapsOK]
  | m :: r, last => by
    have i := mapsOK_iff t r m.1
    have e : mapsOK t (m :: r) last = (!decide (m.1 ≤ last) && (okmB t m && mapsOK t r m.1)) := by
      simp only [mapsOK, okmB, Bool.and_assoc]
    rw [e, Bool.and_eq_true, Bool.and_eq_true, i]
    simp only [Bool.not_eq_true', decide_eq_false_iff_not, List.mem_cons, forall_eq_or_imp, List.pairwise_cons]
    constructor
    · rintro ⟨h1, h2, h3, h4⟩
      exact ⟨⟨⟨by omega, h2⟩, fun a ha => ⟨by have := (h3 a ha).1; omega, (h3 a ha).2⟩⟩, fun a ha => (h3 a ha).1, h4⟩
    · rintro ⟨⟨⟨h1, h2⟩, h3⟩, h4, h5⟩
      exact ⟨by omega, h2, fun a ha => ⟨h4 a ha, (h3 a ha).2⟩, h5⟩
structure VtB (t : SPT) : Prop where
  geo : (geoS t.2.1).2.2.2 = true
  lev : 0 ≤ t.2.2.1 ∧ t.2.2.1 < (geoS t.2.1).1
  base : palS t.1 = true
  ne : t.2.2.2 ≠ []
  ok : ∀ m ∈ t.2.2.2, -1 < m.1 ∧ okmB t m = true
  srt : t.2.2.2.Pairwise (fun a b => a.1 < b.1)
theorem tabB_iff (t : SPT) : tabB t = true ↔ VtB t := by
  simp only [tabB, Bool.and_eq_true, Bool.not_eq_true', decide_eq_false_iff_not, mapsOK_iff]
  constructor
  · rintro ⟨h1, h2, h3, h4, h5, h6, h7⟩
    exact ⟨h1, ⟨by omega, by omega⟩, h4, fun e => h5 (by rw [e]; rfl), h6, h7⟩
  · rintro ⟨h1, ⟨h2, h3⟩, h4, h5, h6, h7⟩
    exact ⟨h1, by omega, by omega, h4, fun e => h5 (List.eq_nil_of_length_eq_zero e), h6, h7⟩
structure Vts (ts : List SPT) : Prop where
  tab : ∀ t ∈ ts, VtB t
  srt : ts.Pairwise (fun a b => a.1 < b.1)
theorem tsL_iff : ∀ (r p : List SPT), p.Pairwise (fun a b => a.1 < b.1) → (tsL p r = true ↔ (∀ t ∈ r, VtB t) ∧ (p ++ r).Pairwise (fun a b => a.1 < b.1))
  | [], p, hp => by simp [tsL, hp]
  | u :: r, p, hp => by
    have key : (bif p.isEmpty then true else decide ((p.getLastD zPT).1 < u.1)) = true ↔ ∀ a ∈ p, a.1 < u.1 := by
      cases p with
      | nil => simp
      | cons a p =>
        obtain ⟨q, y, e⟩ : ∃ q y, a :: p = q ++ [y] := ⟨(a :: p).dropLast, (a :: p).getLast (by simp), (List.dropLast_concat_getLast _).symm⟩
        rw [e] at hp ⊢
        have e1 : (q ++ [y]).isEmpty = false := by cases q <;> rfl
        rw [e1, cond_false, decide_eq_true_eq]
        have e2 : (q ++ [y]).getLastD zPT = y := by simp
        rw [e2]
        constructor
        · intro h b hb
          rcases List.mem_append.1 hb with hb | hb
          · have := (List.pairwise_append.1 hp).2.2 b hb y (List.mem_singleton.2 rfl); omega
          · rw [List.mem_singleton.1 hb]; exact h
        · intro h; exact h y (by simp)
    simp only [tsL, Bool.and_eq_true, tabB_iff, key]
    constructor
    · rintro ⟨h1, h2, h3⟩
      have hp2 : (p ++ [u]).Pairwise (fun a b => a.1 < b.1) := List.pairwise_append.2 ⟨hp, by simp, fun a ha b hb => by rw [List.mem_singleton.1 hb]; exact h2 a ha⟩
      obtain ⟨g1, g2⟩ := (tsL_iff r (p ++ [u]) hp2).1 h3
      exact ⟨fun t ht => by
        rcases List.mem_cons.1 ht with rfl | ht
        · exact h1
        · exact g1 t ht, by simpa using g2⟩
    · rintro ⟨h1, h2⟩
      have e : p ++ u :: r = (p ++ [u]) ++ r := by simp
      rw [e] at h2
      have hp2 := (List.pairwise_append.1 h2).1
      exact ⟨h1 u (List.mem_cons_self ..), fun a ha => (List.pairwise_append.1 hp2).2.2 a ha u (List.mem_singleton.2 rfl), (tsL_iff r (p ++ [u]) hp2).2 ⟨fun t ht => h1 t (List.mem_cons_of_mem _ ht), h2⟩⟩
theorem tabsB_iff (ts : List SPT) : tabsB ts = true ↔ Vts ts := by
  unfold tabsB
  rw [tsL_iff ts [] .nil]
  exact ⟨fun h => ⟨h.1, h.2⟩, fun h => ⟨h.tab, h.srt⟩⟩
/-! ### Searching -/
theorem findI_hit {α : Type} {p : α → Bool} {x : α} (hx : p x = true) : ∀ {l r : List α} {k : Int}, (∀ y ∈ l, p y = false) → findI p (l ++ x :: r) k = k + ((l.length : Nat) : Int)
  | [], r, k, _ => by simp [findI, hx]
  | y :: l, r, k, h => by
    have h1 := h y (List.mem_cons_self ..)
    rw [List.cons_append, findI, h1, cond_false, findI_hit hx (fun z hz => h z (List.mem_cons_of_mem _ hz)), List.length_cons]; omega
theorem findI_miss {α : Type} {p : α → Bool} : ∀ {l : List α} {k : Int}, (∀ y ∈ l, p y = false) → findI p l k = -1
  | [], k, _ => rfl
  | y :: l, k, h => by
    rw [findI, h y (List.mem_cons_self ..), cond_false]; exact findI_miss (fun z hz => h z (List.mem_cons_of_mem _ hz))
theorem split_lt {α : Type} (f : α → Int) (b : Int) : ∀ {l : List α}, l.Pairwise (fun x y => f x < f y) → ∃ L R, l = L ++ R ∧ (∀ x ∈ L, f x < b) ∧ ∀ x ∈ R, b ≤ f x
  | [], _ => ⟨[], [], rfl, by simp, by simp⟩
  | x :: l, h => by
    rw [List.pairwise_cons] at h
    by_cases hx : f x < b
    · obtain ⟨L, R, rfl, h1, h2⟩ := split_lt f b h.2
      exact ⟨x :: L, R, rfl, fun y hy => by
        rcases List.mem_cons.1 hy with rfl | hy
        · exact hx
        · exact h1 y hy, h2⟩
    · exact ⟨[], x :: l, rfl, by simp, fun y hy => by
        rcases List.mem_cons.1 hy with rfl | hy
        · omega
        · have := h.1 y hy; omega⟩
theorem split_at {α : Type} (f : α → Int) (b : Int) {l : List α} (h : l.Pairwise (fun x y => f x < f y)) : (∃ L R, l = L ++ R ∧ (∀ x ∈ L, f x < b) ∧ ∀ x ∈ R, b < f x) ∨ ∃ L T R, l = L ++ T :: R ∧ f T = b ∧ (∀ x ∈ L, f x < b) ∧ ∀ x ∈ R, b < f x := by
  obtain ⟨L, R, rfl, h1, h2⟩ := split_lt f b h
  cases R with
  | nil => exact .inl ⟨L, [], rfl, h1, by simp⟩
  | cons T R =>
    have hs := (List.pairwise_append.1 h).2.1
    rw [List.pairwise_cons] at hs
    have hT := h2 T (List.mem_cons_self ..)
    by_cases e : f T = b
    · exact .inr ⟨L, T, R, rfl, e, h1, fun x hx => by have := hs.1 x hx; omega⟩
    · exact .inl ⟨L, T :: R, rfl, h1, fun x hx => by
        rcases List.mem_cons.1 hx with rfl | hx
        · omega
        · have := hs.1 x hx; omega⟩
theorem ftS_hit {L R : List SPT} {T : SPT} {b : Int} (hT : T.1 = b) (hL : ∀ x ∈ L, x.1 < b) : ftS (L ++ T :: R) b = ((L.length : Nat) : Int) := by
  unfold ftS
  rw [findI_hit (by simpa using hT) (fun y hy => decide_eq_false (by have := hL y hy; omega)), Int.zero_add]
theorem ftS_miss {L R : List SPT} {b : Int} (hL : ∀ x ∈ L, x.1 < b) (hR : ∀ x ∈ R, b < x.1) : ftS (L ++ R) b = -1 := by
  unfold ftS
  exact findI_miss fun y hy => decide_eq_false (by
    rcases List.mem_append.1 hy with hy | hy
    · have := hL y hy; omega
    · have := hR y hy; omega)
theorem getD_hit {α : Type} {L R : List α} {T z : α} : (L ++ T :: R).getD (((L.length : Nat) : Int)).toNat z = T := by rw [Int.toNat_natCast]; simp
theorem lowB_split {A B : List SMp} {i : Int} (hA : ∀ x ∈ A, x.1 < i) (hB : ∀ x ∈ B, i ≤ x.1) : lowB (A ++ B) i = A.length := by
  unfold lowB
  rw [List.takeWhile_append_of_pos (fun x hx => decide_eq_true (hA x hx))]
  cases B with
  | nil => simp
  | cons b B =>
    have := hB b (List.mem_cons_self ..)
    rw [List.takeWhile_cons_of_neg (by simp; omega)]; simp
theorem insAt_split {α : Type} {L R : List α} {x : α} : insAt (L ++ R) L.length x = L ++ x :: R := by
  unfold insAt; rw [List.take_left, List.drop_left]; simp
/-! ### Map -/
theorem mapS_rest {ts : List SPT} {c : SCp} {k : Int} {n : SNd} {mask : Int} (h1 : tabsB ts = true) (h2 : vnodB n = true) (h3 : 0 ≤ mask ∧ mask ≤ 7) (h4 : cidxS (c, k) = 0) :
    (kindS (ts, c) = false ∨ F_rmbl (c, ncap n) = false → mapS (ts, c, k, n, mask) = ([], 5)) ∧ (kindS (ts, c) = true → F_rmbl (c, ncap n) = true → mapS (ts, c, k, n, mask) =
      bif decide (ftS ts c.2.1 < 0) then (insAt ts (posI (findI (fun t => decide (t.1 > c.2.1)) ts 0) ts.length) (c.2.1, c.2.2.2.2.1, c.2.2.2.2.2.1, [mapM c k n mask]), 0) else
      bif decide (lowB (Ns.maps (ts.getD (ftS ts c.2.1).toNat zPT)) k < (Ns.maps (ts.getD (ftS ts c.2.1).toNat zPT)).length) && decide (((Ns.maps (ts.getD (ftS ts c.2.1).toNat zPT)).getD (lowB (Ns.maps (ts.getD (ftS ts c.2.1).toNat zPT)) k) zM).1 = k) then ([], 12) else
      (ts.set (ftS ts c.2.1).toNat ((ts.getD (ftS ts c.2.1).toNat zPT).1, (ts.getD (ftS ts c.2.1).toNat zPT).2.1, (ts.getD (ftS ts c.2.1).toNat zPT).2.2.1, insAt (Ns.maps (ts.getD (ftS ts c.2.1).toNat zPT)) (lowB (Ns.maps (ts.getD (ftS ts c.2.1).toNat zPT)) k) (mapM c k n mask)), 0)) := by
  have e3 : decide (mask < 0) = false := decide_eq_false (by omega)
  have e4 : decide (mask > 7) = false := decide_eq_false (by omega)
  have e5 : decide (cidxS (c, k) ≠ 0) = false := decide_eq_false (fun h => h h4)
  have k1 : kindS (ts, c) = true → decide (ctabS (ts, c) ≠ 0) = false := fun h => decide_eq_false (by unfold ctabS; rw [h]; simp)
  have k2 : kindS (ts, c) = false → ctabS (ts, c) = 5 := fun h => by unfold ctabS; rw [h]; rfl
  refine ⟨fun h => ?_, fun ha hb => ?_⟩
  · cases hk : kindS (ts, c)
    · have e6 : decide (ctabS (ts, c) ≠ 0) = true := decide_eq_true (by rw [k2 hk]; decide)
      simp only [mapS, h1, h2, e3, e4, e6, Bool.not_true, cond_false, cond_true, k2 hk]; rfl
    · rcases h with h | h
      · rw [hk] at h; cases h
      · simp only [mapS, h1, h2, e3, e4, k1 hk, h, Bool.not_true, cond_false, Bool.not_false, cond_true]
  · simp only [mapS, h1, h2, e3, e4, e5, k1 ha, hb, Bool.not_true, cond_false]
structure MapIn (ts r : List SPT) (c : SCp) (m : SMp) (L R : List SPT) (A B : List SMp) : Prop where
  res : r = L ++ (c.2.1, c.2.2.2.2.1, c.2.2.2.2.2.1, A ++ m :: B) :: R
  was : (ts = L ++ R ∧ A = [] ∧ B = []) ∨ (ts = L ++ (c.2.1, c.2.2.2.2.1, c.2.2.2.2.2.1, A ++ B) :: R ∧ A ++ B ≠ [])
  hL : ∀ x ∈ L, x.1 < c.2.1
  hR : ∀ x ∈ R, c.2.1 < x.1
  hA : ∀ x ∈ A, x.1 < m.1
  hB : ∀ x ∈ B, m.1 < x.1
theorem posI_split {L R : List SPT} {b : Int} (hL : ∀ x ∈ L, x.1 < b) (hR : ∀ x ∈ R, b < x.1) : posI (findI (fun t => decide (t.1 > b)) (L ++ R) 0) (L ++ R).length = L.length := by
  have hl : ∀ y ∈ L, (fun t : SPT => decide (t.1 > b)) y = false := fun y hy => decide_eq_false (by have := hL y hy; omega)
  cases R with
  | nil =>
    rw [List.append_nil, findI_miss hl]; rfl
  | cons T R =>
    rw [findI_hit (p := fun t : SPT => decide (t.1 > b)) (x := T) (decide_eq_true (hR T (List.mem_cons_self ..))) hl, Int.zero_add, posI, decide_eq_false (by omega), cond_false, Int.toNat_natCast]
theorem mapS_in {ts : List SPT} {c : SCp} {k : Int} {n : SNd} {mask : Int} (hv : Vts ts) (h2 : vnodB n = true) (h3 : 0 ≤ mask ∧ mask ≤ 7) (h4 : cidxS (c, k) = 0) :
    (mapS (ts, c, k, n, mask) = ([], 5) ∨ mapS (ts, c, k, n, mask) = ([], 12)) ∨
    (kindS (ts, c) = true ∧ F_rmbl (c, ncap n) = true ∧ ∃ r L R A B, mapS (ts, c, k, n, mask) = (r, 0) ∧ MapIn ts r c (mapM c k n mask) L R A B) := by
  have h1 := (tabsB_iff ts).2 hv
  obtain ⟨g1, g2⟩ := mapS_rest h1 h2 h3 h4
  cases hk : kindS (ts, c)
  · exact .inl (.inl (g1 (.inl hk)))
  cases hm : F_rmbl (c, ncap n)
  · exact .inl (.inl (g1 (.inr hm)))
  have g := g2 hk hm
  rcases split_at (fun t : SPT => t.1) c.2.1 hv.srt with ⟨L, R, e, hL, hR⟩ | ⟨L, T, R, e, hT, hL, hR⟩
  · refine .inr ⟨rfl, rfl, _, L, R, [], [], g.trans ?_, rfl, .inl ⟨e, rfl, rfl⟩, hL, hR, by simp, by simp⟩
    subst e
    rw [ftS_miss hL hR, decide_eq_true (by omega), cond_true, posI_split hL hR, insAt_split]; rfl
  · have e1 : kindS (ts, c) = true → T.2.1 = c.2.2.2.2.1 ∧ T.2.2.1 = c.2.2.2.2.2.1 := by
      intro hk
      simp only [kindS, Bool.and_eq_true, Bool.or_eq_true, decide_eq_true_eq] at hk
      subst e
      rw [ftS_hit hT hL, getD_hit] at hk
      rcases hk.2.2 with h | h
      · omega
      · exact h
    obtain ⟨ew, el⟩ := e1 hk
    have eT : ∀ M : List SMp, (T.1, T.2.1, T.2.2.1, M) = ((c.2.1, c.2.2.2.2.1, c.2.2.2.2.2.1, M) : SPT) := fun M => by rw [← ew, ← el]; exact congrArg (fun x => ((x, T.2.1, T.2.2.1, M) : SPT)) hT
    subst e
    rw [ftS_hit hT hL, getD_hit, decide_eq_false (by omega), cond_false, Int.toNat_natCast] at g
    have vT := hv.tab T (List.mem_append_right _ (List.mem_cons_self ..))
    rcases split_at (fun m : SMp => m.1) k vT.srt with ⟨A, B, e, hA, hB⟩ | ⟨A, M, B, e, hM, hA, hB⟩
    · have e2 : lowB (Ns.maps T) k = A.length := by
        show lowB T.2.2.2 k = A.length
        rw [e]; exact lowB_split hA fun x hx => by have := hB x hx; omega
      have e3 : (decide (A.length < (Ns.maps T).length) && decide (((Ns.maps T).getD A.length zM).1 = k)) = false := by
        show (decide (A.length < T.2.2.2.length) && decide ((T.2.2.2.getD A.length zM).1 = k)) = false
        rw [e]
        cases B with
        | nil => rw [decide_eq_false (by simp)]; rfl
        | cons b B =>
          have hb := hB b (List.mem_cons_self ..)
          rw [Bool.and_eq_false_iff]; right
          apply decide_eq_false
          rw [show (A ++ b :: B).getD A.length zM = b by simp]; omega
      rw [e2, e3, cond_false] at g
      refine .inr ⟨rfl, rfl, _, L, R, A, B, g.trans ?_, rfl, .inr ⟨?_, ?_⟩, hL, hR, hA, hB⟩
      · have e4 : insAt (Ns.maps T) A.length (mapM c k n mask) = A ++ mapM c k n mask :: B := by
          show insAt T.2.2.2 A.length _ = _
          rw [e, insAt_split]
        rw [e4, eT, List.set_append_right _ _ (Nat.le_refl _), Nat.sub_self]; rfl
      · rw [← eT, ← e]
      · rw [← e]; exact vT.ne
    · have e2 : lowB (Ns.maps T) k = A.length := by
        show lowB T.2.2.2 k = A.length
        rw [e]; exact lowB_split hA fun x hx => by
          rcases List.mem_cons.1 hx with rfl | hx
          · have : x.1 = k := hM
            omega
          · have := hB x hx; omega
      have e3 : (decide (A.length < (Ns.maps T).length) && decide (((Ns.maps T).getD A.length zM).1 = k)) = true := by
        show (decide (A.length < T.2.2.2.length) && decide ((T.2.2.2.getD A.length zM).1 = k)) = true
        rw [e, show (A ++ M :: B).getD A.length zM = M by simp, decide_eq_true (by simp), decide_eq_true hM]; rfl
      rw [e2, e3, cond_true] at g
      exact .inl (.inr g)
def capOK (c : SCp) : Bool := (geoS c.2.2.2.2.1).2.2.2 && (decide (0 ≤ c.2.2.2.2.2.1) && (decide (c.2.2.2.2.2.1 < (geoS c.2.2.2.2.1).1) && palS c.2.1))
def inOK (c : SCp) (m : SMp) : Bool := decide (-1 < m.1) && okmB (c.2.1, c.2.2.2.2.1, c.2.2.2.2.2.1, []) m
theorem pair_in {α : Type} {f : α → Int} {A B : List α} {m : α} (h : (A ++ B).Pairwise (fun a b => f a < f b)) (hA : ∀ x ∈ A, f x < f m) (hB : ∀ x ∈ B, f m < f x) : (A ++ m :: B).Pairwise (fun a b => f a < f b) := by
  obtain ⟨h1, h2, h3⟩ := List.pairwise_append.1 h
  refine List.pairwise_append.2 ⟨h1, List.pairwise_cons.2 ⟨hB, h2⟩, fun a ha b hb => ?_⟩
  rcases List.mem_cons.1 hb with rfl | hb
  · exact hA a ha
  · exact h3 a ha b hb
theorem MapIn.vts {ts r : List SPT} {c : SCp} {m : SMp} {L R : List SPT} {A B : List SMp} (h : MapIn ts r c m L R A B) (hv : Vts ts) (hc : capOK c = true) (hm : inOK c m = true) : Vts r := by
  simp only [capOK, inOK, Bool.and_eq_true, decide_eq_true_eq] at hc hm
  obtain ⟨c1, c2, c3, c4⟩ := hc
  have hLR : ∀ t, t ∈ L ∨ t ∈ R → t ∈ ts := fun t ht => by
    rcases h.was with ⟨e, -, -⟩ | ⟨e, -⟩ <;> rw [e] <;> rcases ht with ht | ht <;> simp [ht]
  have hAB : (∀ x ∈ A ++ B, -1 < x.1 ∧ okmB (c.2.1, c.2.2.2.2.1, c.2.2.2.2.2.1, []) x = true) ∧ (A ++ B).Pairwise (fun a b => a.1 < b.1) := by
    rcases h.was with ⟨e, rfl, rfl⟩ | ⟨e, -⟩
    · exact ⟨by simp, by simp⟩
    · have := hv.tab (c.2.1, c.2.2.2.2.1, c.2.2.2.2.2.1, A ++ B) (by rw [e]; simp)
      exact ⟨this.ok, this.srt⟩
  have hs : (L ++ R).Pairwise (fun a b => a.1 < b.1) := by
    rcases h.was with ⟨e, -, -⟩ | ⟨e, -⟩
    · rw [← e]; exact hv.srt
    · have := hv.srt
      rw [e] at this
      exact this.sublist (List.Sublist.append (List.Sublist.refl _) (List.sublist_cons_self _ _))
  constructor
  · intro t ht
    rw [h.res] at ht
    rcases List.mem_append.1 ht with ht | ht
    · exact hv.tab t (hLR t (.inl ht))
    · rcases List.mem_cons.1 ht with rfl | ht
      · refine ⟨c1, ⟨c2, c3⟩, c4, by simp, fun x hx => ?_, pair_in hAB.2 h.hA h.hB⟩
        rcases List.mem_append.1 hx with hx | hx
        · exact hAB.1 x (List.mem_append_left _ hx)
        · rcases List.mem_cons.1 hx with rfl | hx
          · exact hm
          · exact hAB.1 x (List.mem_append_right _ hx)
      · exact hv.tab t (hLR t (.inr ht))
  · rw [h.res]
    exact pair_in (f := fun t : SPT => t.1) hs h.hL h.hR
theorem MapIn.ft {ts r : List SPT} {c : SCp} {m : SMp} {L R : List SPT} {A B : List SMp} (h : MapIn ts r c m L R A B) : ftS r c.2.1 = ((L.length : Nat) : Int) := by
  rw [h.res]; exact ftS_hit rfl h.hL
theorem MapIn.kind {ts r : List SPT} {c : SCp} {m : SMp} {L R : List SPT} {A B : List SMp} (h : MapIn ts r c m L R A B) (hk : kindS (ts, c) = true) : kindS (r, c) = true := by
  simp only [kindS, Bool.and_eq_true, Bool.or_eq_true, decide_eq_true_eq] at hk ⊢
  refine ⟨hk.1, hk.2.1, .inr ?_⟩
  rw [h.ft, h.res, getD_hit]; exact ⟨rfl, rfl⟩
theorem MapIn.again {ts r : List SPT} {c : SCp} {k : Int} {n : SNd} {m : SMp} {L R : List SPT} {A B : List SMp} (h : MapIn ts r c m L R A B) (hr : Vts r) (h2 : vnodB n = true) (h4 : cidxS (c, k) = 0)
    (hk : kindS (ts, c) = true) (hm : F_rmbl (c, ncap n) = true) (hmk : m.1 = k) : mapS (r, c, k, n, 3) = ([], 12) := by
  have g := (mapS_rest ((tabsB_iff r).2 hr) h2 ⟨by omega, by omega⟩ h4 (mask := 3)).2 (h.kind hk) hm
  rw [h.ft, decide_eq_false (by omega), cond_false] at g
  have e : r.getD (((L.length : Nat) : Int)).toNat zPT = (c.2.1, c.2.2.2.2.1, c.2.2.2.2.2.1, A ++ m :: B) := by rw [h.res, getD_hit]
  rw [e] at g
  have e2 : lowB (A ++ m :: B) k = A.length := lowB_split (fun x hx => by have := h.hA x hx; omega) fun x hx => by
    rcases List.mem_cons.1 hx with rfl | hx
    · omega
    · have := h.hB x hx; omega
  have e3 : (decide (A.length < (A ++ m :: B).length) && decide (((A ++ m :: B).getD A.length zM).1 = k)) = true := by
    rw [show (A ++ m :: B).getD A.length zM = m by simp, decide_eq_true (by simp), decide_eq_true hmk]; rfl
  simp only [Ns.maps, e2, e3, cond_true] at g
  exact g
end Go.AL
/-
  Layer 16: VspaceMapUnmap: what it computes. By an AI agent.
-/
namespace Go.AL
open Go.Proofs
set_option linter.unusedVariables false
set_option linter.unusedSimpArgs false
theorem place_idem (n : Int) {s : Int} (h : 0 < s) : place (place (n, s), s) = place (n, s) := by
  have h1 := place_lo n s
  have h2 := place_hi n h
  generalize place (n, s) = p at h1 h2
  show (bif decide (s < 1) then 0 else p % s) = p
  rw [decide_eq_false (by omega), cond_false, Int.emod_eq_of_lt h1 h2]
theorem mem4 {p : Int} (h0 : 0 ≤ p) (h1 : p < 4) : p ∈ ([0, 1, 2, 3] : List Int) := by
  simp only [List.mem_cons, List.not_mem_nil, or_false]; omega
theorem mem8 {p : Int} (h0 : 0 ≤ p) (h1 : p < 8) : p ∈ ([0, 1, 2, 3, 4, 5, 6, 7] : List Int) := by
  simp only [List.mem_cons, List.not_mem_nil, or_false]; omega
theorem tcap_pl (n : Int) : ∃ a ∈ ([0, 1, 2, 3] : List Int), tcapS n = tcapS a :=
  ⟨place (n, 4), mem4 (place_lo n 4) (place_hi n (by omega)), by unfold tcapS; rw [place_idem n (by omega)]⟩
theorem mnod_pl (n : Int) : ∃ a ∈ ([0, 1, 2, 3, 4, 5, 6, 7] : List Int), mnodS n = mnodS a :=
  ⟨place (n, 8), mem8 (place_lo n 8) (place_hi n (by omega)), by unfold mnodS; rw [place_idem n (by omega)]⟩
def restOK (c : SCp) (m : SMp) : Bool := vidB m.2.2.2 && (palS m.2.1 && (!decide (m.2.2.1 < 0) && (!decide (m.2.2.1 > 3) && (decide (c.2.2.2.2.2.1 = 0) || decide (m.2.2.1 = 0)))))
theorem fin_rest : ∀ a ∈ ([0, 1, 2, 3] : List Int), ∀ b ∈ ([0, 1, 2, 3, 4, 5, 6, 7] : List Int), ∀ m ∈ ([0, 1, 2, 3, 4, 5, 6, 7] : List Int), restOK (tcapS a) (mapM (tcapS a) 0 (mnodS b) m) = true := by decide +kernel
theorem fin_cap : ∀ a ∈ ([0, 1, 2, 3] : List Int), capOK (tcapS a) = true ∧ (tcapS a).2.2.2.2.1 = 32 := by decide +kernel
theorem fin_nod : ∀ b ∈ ([0, 1, 2, 3, 4, 5, 6, 7] : List Int), vnodB (mnodS b) = true := by decide +kernel
theorem tcap_ok (n : Int) : capOK (tcapS n) = true ∧ (tcapS n).2.2.2.2.1 = 32 := by
  obtain ⟨a, ha, e⟩ := tcap_pl n
  rw [e]; exact fin_cap a ha
theorem mnod_ok (n : Int) : vnodB (mnodS n) = true := by
  obtain ⟨a, ha, e⟩ := mnod_pl n
  rw [e]; exact fin_nod a ha
theorem tcap_idx (n : Int) {k : Int} (h0 : 0 ≤ k) (h1 : k < 1024) : cidxS (tcapS n, k) = 0 := by
  show (bif decide (k < 0) || decide (k ≥ lim (tcapS n).2.2.2.2.1) then (6 : Int) else 0) = 0
  rw [(tcap_ok n).2]
  show (bif decide (k < 0) || decide (k ≥ 1024) then (6 : Int) else 0) = 0
  rw [decide_eq_false (by omega), decide_eq_false (by omega)]; rfl
theorem in_ok (n p : Int) {k mask : Int} (h0 : 0 ≤ k) (h1 : k < 1024) (h2 : 0 ≤ mask) (h3 : mask < 8) : inOK (tcapS n) (mapM (tcapS n) k (mnodS p) mask) = true := by
  have hr : restOK (tcapS n) (mapM (tcapS n) 0 (mnodS p) mask) = true := by
    obtain ⟨a, ha, e⟩ := tcap_pl n
    obtain ⟨b, hb, e2⟩ := mnod_pl p
    rw [e, e2]; exact fin_rest a ha b hb mask (mem8 h2 h3)
  show (decide (-1 < k) && (!decide (k ≥ lim (tcapS n).2.2.2.2.1) && restOK (tcapS n) (mapM (tcapS n) 0 (mnodS p) mask))) = true
  rw [hr, (tcap_ok n).2]
  show (decide (-1 < k) && (!decide (k ≥ 1024) && true)) = true
  rw [decide_eq_true (by omega), decide_eq_false (by omega)]; rfl
end Go.AL
/-
  Layer 16: walks, Sync and caches: models. By an AI agent.
-/
namespace Go.AL
open Go.Proofs
set_option linter.unusedVariables false
set_option linter.unusedSimpArgs false
def dropS (a : List STr × SId) : List STr := a.1.filter (fun t => !memD a.2 t.2.2.2.2.1)
theorem tr40a {u : STr} (h : trPre u = true) : len40n u.2.2.2.2.1 = true := (Bool.and_eq_true_iff.1 (tr40 h)).1
noncomputable def C_drp1 : Cfg := ⟨Try.prog, [E_scon], pmT [], 9, [], []⟩
theorem es_drp1 : EsOk Try.prog [E_scon] [] := es_cons E_scon_ok (es_nil)
def Lt_drp1 : Nat → LD := ldT []
noncomputable def M_drp1 (f : Nat) (a : STr × SId) : Option (Bool) := (runX (C_drp1) Lt_drp1 (Kret Try.prog [.tmp 3] [.v (.bool)]) f [.code (bodyOf Try.f73)] (initX [.g tSTr, .cp tSId] a) : Option (ResT [.v (.bool)]))
theorem M_drp1_eq (f : Nat) (t : STr) (id : SId) : M_drp1 (f + 1) (t, id) =
    bif len40n t.2.2.2.2.1 then some !memD id t.2.2.2.2.1 else none := by kernel_rfl
noncomputable def F_drp1 : (STr × SId) → Bool
  | (t, id) => !memD id t.2.2.2.2.1
noncomputable def P_drp1 : (STr × SId) → Bool
  | (t, id) => len40n t.2.2.2.2.1
theorem drp1_auto : ∀ a : STr × SId, Rns (fun f => M_drp1 f a) (P_drp1 a) (F_drp1 a)
  | (t, id) => ev_step (fun f => M_drp1_eq f _ _) (ev_chk1 ev_some)
theorem drp1_P : ∀ a : STr × SId, len40n a.1.2.2.2.2.1 = true → P_drp1 a = true := fun a h => h
theorem drp1_F : ∀ a : STr × SId, len40n a.1.2.2.2.2.1 = true → F_drp1 a = !memD a.2 a.1.2.2.2.2.1 := fun a _ => rfl
theorem drp1_run : ∀ a, (fun a => len40n a.1.2.2.2.2.1 : STr × SId → Bool) a = true → ∃ f, M_drp1 f a = some ((fun a => !memD a.2 a.1.2.2.2.2.1 : STr × SId → Bool) a) := fun a h => by have h1 := drp1_auto a (drp1_P a h); rw [drp1_F a h] at h1; exact h1
noncomputable def E_drp1 : Ent := ⟨73, [.g tSTr, .cp tSId], [.v (.bool)], fun a => (fun a => len40n a.1.2.2.2.2.1 : STr × SId → Bool) a, fun a => (fun a => !memD a.2 a.1.2.2.2.2.1 : STr × SId → Bool) a⟩
theorem E_drp1_ok : E_drp1.Ok Try.prog := fun a hp vs hv => (drp1_run a hp).elim fun f h => fnX_ok (C := C_drp1) (Lt := Lt_drp1) (fn := Try.f73) (rs := [.tmp 3]) [.g tSTr, .cp tSId] [.v (.bool)] mixed es_drp1 Try.func73 rfl rfl rfl (by kernel_rfl) (by kernel_rfl) f h vs hv
noncomputable def C_fld : Cfg := ⟨Try.prog, [E_ctr, E_drp1], pmT [], 24, [], []⟩
theorem es_fld : EsOk Try.prog [E_ctr, E_drp1] [] := es_cons E_ctr_ok (es_cons E_drp1_ok (es_nil))
def Lt_fld : Nat → LD := ldT [(0, ⟨[.fn 1 73 [tSId], .list 5 999 45 6 tSTr, .rd 8 tSTr, .c 9 (.int .i64), .c 10 (.int .i64)], [], 0⟩)]
noncomputable def M_fld (f : Nat) (a : (List (STr)) × SId) : Option ((List (STr))) := (runX (C_fld) Lt_fld (Kret Try.prog [.tmp 4] [.o 45 6 tSTr]) f [.code (bodyOf Try.f71)] (initX [.rd tSTr, .fn 73 [tSId]] a) : Option (ResT [.o 45 6 tSTr]))
noncomputable def L_fld_0 (f : Nat) (x : SId × (List (STr)) × (List (STr)) × Int × Int) : Option ((List (STr))) := (runX (C_fld) Lt_fld (Kret Try.prog [.tmp 4] [.o 45 6 tSTr]) f (headOf Try.f71 0) ((Lt_fld 0).mk' x) : Option (ResT [.o 45 6 tSTr]))
theorem M_fld_eq (f : Nat) (tlb : List (STr)) (keep : SId) : M_fld (f + 1) (tlb, keep) =
    L_fld_0 f (keep, [], tlb, (↑tlb.length : Int), 0) := by kernel_rfl
theorem L_fld_0_eq (f : Nat) (keep : SId) (out : List (STr)) (x8 : List (STr)) (x9 : Int) (x10 : Int) : L_fld_0 (f + 1) (keep, out, x8, x9, x10) =
    bif decide (x10 < x9) then bif decide (0 ≤ x10) && decide (x10 < (↑x8.length : Int)) then bif len40n (x8.getD x10.toNat (0, 0, 0, 0, [], [])).2.2.2.2.1 then bif !memD keep (x8.getD x10.toNat (0, 0, 0, 0, [], [])).2.2.2.2.1 then bif len40n (x8.getD x10.toNat (0, 0, 0, 0, [], [])).2.2.2.2.1 && len40n (x8.getD x10.toNat (0, 0, 0, 0, [], [])).2.2.2.2.2 then bif decide ((out.length + [x8.getD x10.toNat (0, 0, 0, 0, [], [])].length) * 80 ≤ 140737488355328) then L_fld_0 f (keep, out ++ [x8.getD x10.toNat (0, 0, 0, 0, [], [])], x8, x9, IntKind.i64.wrap (x10 + 1)) else none else none else L_fld_0 f (keep, out, x8, x9, IntKind.i64.wrap (x10 + 1)) else none else none else some out := by kernel_rfl
noncomputable def F_fld_0 : List (STr) → (SId × (List (STr)) × (List (STr)) × Int × Nat) → (List (STr))
  | [], (keep, out, x8, x9, x10) => out
  | uu :: rest, (keep, out, x8, x9, x10) => bif !memD keep uu.2.2.2.2.1 then F_fld_0 rest (keep, out ++ [uu], x8, x9, x10 + 1) else F_fld_0 rest (keep, out, x8, x9, x10 + 1)
noncomputable def P_fld_0 : List (STr) → (SId × (List (STr)) × (List (STr)) × Int × Nat) → Bool
  | [], (keep, out, x8, x9, x10) => true
  | uu :: rest, (keep, out, x8, x9, x10) => len40n uu.2.2.2.2.1 && bif !memD keep uu.2.2.2.2.1 then len40n uu.2.2.2.2.1 && len40n uu.2.2.2.2.2 && (decide ((out.length + [uu].length) * 80 ≤ 140737488355328) && P_fld_0 rest (keep, out ++ [uu], x8, x9, x10 + 1)) else P_fld_0 rest (keep, out, x8, x9, x10 + 1)
theorem A_fld_0 : ∀ (rest : List (STr)) (keep : SId) (out : List (STr)) (x8 : List (STr)) (x9 : Int) (x10 : Nat) (hd : x8.drop x10 = rest) (hn : x9 = ((x8.length : Nat) : Int)) (hl : x8.length ≤ 1099511627776), Rns (fun f => L_fld_0 f (keep, out, x8, x9, ((x10 : Nat) : Int))) (P_fld_0 rest (keep, out, x8, x9, x10)) (F_fld_0 rest (keep, out, x8, x9, x10))
  | [], keep, out, x8, x9, x10, hd, hn, hl => ev_step (T := fun f => some out) (fun f => (L_fld_0_eq f _ _ _ _ _).trans (by simp only [ge_decn hn (drop_ge hd), ge0, Bool.and_self, Bool.true_and, cond_true, cond_false, List.length_set] <;> rfl)) ev_some
  | uu :: rest, keep, out, x8, x9, x10, hd, hn, hl => ev_step (T := fun f => bif len40n uu.2.2.2.2.1 then bif !memD keep uu.2.2.2.2.1 then bif len40n uu.2.2.2.2.1 && len40n uu.2.2.2.2.2 then bif decide ((out.length + [uu].length) * 80 ≤ 140737488355328) then L_fld_0 f (keep, out ++ [uu], x8, x9, (↑(x10 + 1) : Int)) else none else none else L_fld_0 f (keep, out, x8, x9, (↑(x10 + 1) : Int)) else none) (fun f => (L_fld_0_eq f _ _ _ _ _).trans (by simp only [lt_decn hn (drop_lt hd), lt_dec (drop_lt hd), drop_get hd, wrap_succ (drop_lt hd) hl, getD_set (drop_lt hd), ge0, Bool.and_self, Bool.true_and, cond_true, cond_false, List.length_set] <;> rfl)) (ev_chk (ev_bif (ev_chk (ev_chk (A_fld_0 rest _ _ _ _ _ (by first | exact drop_succ hd | exact drop_set hd | exact drop_setS (drop_set hd)) (by first | exact hn | simpa using hn) (by first | exact hl | simpa using hl)))) (A_fld_0 rest _ _ _ _ _ (by first | exact drop_succ hd | exact drop_set hd | exact drop_setS (drop_set hd)) (by first | exact hn | simpa using hn) (by first | exact hl | simpa using hl))))
noncomputable def F_fld : ((List (STr)) × SId) → (List (STr))
  | (tlb, keep) => F_fld_0 tlb (keep, [], tlb, (↑tlb.length : Int), 0)
noncomputable def P_fld : ((List (STr)) × SId) → Bool
  | (tlb, keep) => decide (tlb.length ≤ 1099511627776) && P_fld_0 tlb (keep, [], tlb, (↑tlb.length : Int), 0)
theorem fld_auto : ∀ a : (List (STr)) × SId, Rns (fun f => M_fld f a) (P_fld a) (F_fld a)
  | (tlb, keep) => ev_step (fun f => M_fld_eq f _ _) (ev_and fun hh => A_fld_0 _ _ _ _ _ _ rfl (by first | rfl | simp) (of_decide_eq_true hh))
theorem fld_0 (t : SId) (x8 : List STr) (x9 : Int) : ∀ (r out : List STr) (k : Nat), (∀ e ∈ r, trPre e = true) → out.length + r.length ≤ 68719476736 → F_fld_0 r (t, out, x8, x9, k) = out ++ dropS (r, t) ∧ P_fld_0 r (t, out, x8, x9, k) = true
  | [], out, k, h, hl => ⟨by simp [F_fld_0, dropS], rfl⟩
  | u :: r, out, k, h, hl => by
    simp only [List.length_cons] at hl
    have hu2 := tr40a (h u (List.mem_cons_self ..))
    have hu : len40n u.2.2.2.2.2 = true := (Bool.and_eq_true_iff.1 (tr40 (h u (List.mem_cons_self ..)))).2
    obtain ⟨i1, i2⟩ := fld_0 t x8 x9 r (out ++ [u]) (k + 1) (fun e he => h e (List.mem_cons_of_mem _ he)) (by simp; omega)
    obtain ⟨j1, j2⟩ := fld_0 t x8 x9 r out (k + 1) (fun e he => h e (List.mem_cons_of_mem _ he)) (by omega)
    have e80 : decide ((out.length + [u].length) * 80 ≤ 140737488355328) = true := decide_eq_true (by simp only [List.length_singleton]; omega)
    simp only [F_fld_0, P_fld_0, i1, i2, j1, j2, hu, hu2, e80, Bool.true_and, dropS, List.filter_cons]
    cases hk : memD t u.2.2.2.2.1
    · refine ⟨?_, rfl⟩
      simp only [Bool.not_false, cond_true, if_true, List.append_assoc, List.singleton_append]
    · exact ⟨rfl, rfl⟩
theorem fld_P : ∀ a : List STr × SId, (fun a : List STr × SId => okL a.1) a = true → P_fld a = true := fun a h => by
  have h : okL a.1 = true := h
  simp only [P_fld, (fld_0 a.2 _ _ a.1 [] 0 (fun e he => okL_mem h he) (by simpa using okL_len h)).2, Bool.and_true]
  exact decide_eq_true (by have := okL_len h; omega)
theorem fld_F : ∀ a : List STr × SId, (fun a : List STr × SId => okL a.1) a = true → F_fld a = dropS a := fun a h => by
  have h : okL a.1 = true := h
  simp only [F_fld, (fld_0 a.2 _ _ a.1 [] 0 (fun e he => okL_mem h he) (by simpa using okL_len h)).1, List.nil_append]
theorem fld_run : ∀ a, (fun a => okL a.1 : (List (STr)) × SId → Bool) a = true → ∃ f, M_fld f a = some ((dropS : (List (STr)) × SId → (List (STr))) a) := fun a h => by have h1 := fld_auto a (fld_P a h); rw [fld_F a h] at h1; exact h1
noncomputable def E_fld : Ent := ⟨71, [.rd tSTr, .fn 73 [tSId]], [.o 45 6 tSTr], fun a => (fun a => okL a.1 : (List (STr)) × SId → Bool) a, fun a => (dropS : (List (STr)) × SId → (List (STr))) a⟩
theorem E_fld_ok : E_fld.Ok Try.prog := fun a hp vs hv => (fld_run a hp).elim fun f h => fnX_ok (C := C_fld) (Lt := Lt_fld) (fn := Try.f71) (rs := [.tmp 4]) [.rd tSTr, .fn 73 [tSId]] [.o 45 6 tSTr] mixed es_fld Try.func71 rfl rfl rfl (by kernel_rfl) (by kernel_rfl) f h vs hv
noncomputable def C_vdrp : Cfg := ⟨Try.prog, [E_fld], pmT [], 8, [], []⟩
theorem es_vdrp : EsOk Try.prog [E_fld] [] := es_cons E_fld_ok (es_nil)
def Lt_vdrp : Nat → LD := ldT []
noncomputable def M_vdrp (f : Nat) (a : (List (STr)) × SId) : Option ((List (STr))) := (runX (C_vdrp) Lt_vdrp (Kret Try.prog [.tmp 4] [.o 45 6 tSTr]) f [.code (bodyOf Try.f44)] (initX [.rd tSTr, .g tSId] a) : Option (ResT [.o 45 6 tSTr]))
theorem M_vdrp_eq (f : Nat) (tlb : List (STr)) (id : SId) : M_vdrp (f + 1) (tlb, id) =
    bif okL tlb then some (dropS (tlb, id)) else none := by kernel_rfl
noncomputable def F_vdrp : ((List (STr)) × SId) → (List (STr))
  | (tlb, id) => dropS (tlb, id)
noncomputable def P_vdrp : ((List (STr)) × SId) → Bool
  | (tlb, id) => okL tlb
theorem vdrp_auto : ∀ a : (List (STr)) × SId, Rns (fun f => M_vdrp f a) (P_vdrp a) (F_vdrp a)
  | (tlb, id) => ev_step (fun f => M_vdrp_eq f _ _) (ev_chk1 ev_some)
theorem vdrp_P : ∀ a : List STr × SId, (fun a : List STr × SId => okL a.1) a = true → P_vdrp a = true := fun a h => h
theorem vdrp_F : ∀ a : List STr × SId, (fun a : List STr × SId => okL a.1) a = true → F_vdrp a = dropS a := fun a h => rfl
theorem vdrp_run : ∀ a, (fun a => okL a.1 : (List (STr)) × SId → Bool) a = true → ∃ f, M_vdrp f a = some ((dropS : (List (STr)) × SId → (List (STr))) a) := fun a h => by have h1 := vdrp_auto a (vdrp_P a h); rw [vdrp_F a h] at h1; exact h1
noncomputable def E_vdrp : Ent := ⟨44, [.rd tSTr, .g tSId], [.o 45 6 tSTr], fun a => (fun a => okL a.1 : (List (STr)) × SId → Bool) a, fun a => (dropS : (List (STr)) × SId → (List (STr))) a⟩
theorem E_vdrp_ok : E_vdrp.Ok Try.prog := fun a hp vs hv => (vdrp_run a hp).elim fun f h => fnX_ok (C := C_vdrp) (Lt := Lt_vdrp) (fn := Try.f44) (rs := [.tmp 4]) [.rd tSTr, .g tSId] [.o 45 6 tSTr] mixed es_vdrp Try.func44 rfl rfl rfl (by kernel_rfl) (by kernel_rfl) f h vs hv
def keepL (live : List SId) (tables : List Int) (t : STr) : Bool := t.2.2.2.2.1.all (fun x => memD x live) && t.2.2.2.2.2.all (fun x => memD x tables)
def fluS (a : List STr × List SId × List Int) : List STr := a.1.filter (keepL a.2.1 a.2.2)
def fluPre (a : List STr × List SId × List Int) : Bool := okL a.1 && (len40n a.2.1 && len40n a.2.2)
noncomputable def C_fl11 : Cfg := ⟨Try.prog, [E_icon], pmT [], 8, [], []⟩
theorem es_fl11 : EsOk Try.prog [E_icon] [] := es_cons E_icon_ok (es_nil)
def Lt_fl11 : Nat → LD := ldT []
noncomputable def M_fl11 (f : Nat) (a : Int × (List (Int))) : Option (Bool) := (runX (C_fl11) Lt_fl11 (Kret Try.prog [.tmp 3] [.v (.bool)]) f [.code (bodyOf Try.f76)] (initX [.c (.int .i64), .cp [.sl [.int .i64]]] a) : Option (ResT [.v (.bool)]))
theorem M_fl11_eq (f : Nat) (b : Int) (tables : List (Int)) : M_fl11 (f + 1) (b, tables) =
    bif len40n tables then some !memD b tables else none := by kernel_rfl
noncomputable def F_fl11 : (Int × (List (Int))) → Bool
  | (b, tables) => !memD b tables
noncomputable def P_fl11 : (Int × (List (Int))) → Bool
  | (b, tables) => len40n tables
theorem fl11_auto : ∀ a : Int × (List (Int)), Rns (fun f => M_fl11 f a) (P_fl11 a) (F_fl11 a)
  | (b, tables) => ev_step (fun f => M_fl11_eq f _ _) (ev_chk1 ev_some)
theorem fl11_P : ∀ a : Int × List Int, len40n a.2 = true → P_fl11 a = true := fun a h => h
theorem fl11_F : ∀ a : Int × List Int, len40n a.2 = true → F_fl11 a = !memD a.1 a.2 := fun a _ => rfl
theorem fl11_run : ∀ a, (fun a => len40n a.2 : Int × (List (Int)) → Bool) a = true → ∃ f, M_fl11 f a = some ((fun a => !memD a.1 a.2 : Int × (List (Int)) → Bool) a) := fun a h => by have h1 := fl11_auto a (fl11_P a h); rw [fl11_F a h] at h1; exact h1
noncomputable def E_fl11 : Ent := ⟨76, [.c (.int .i64), .cp [.sl [.int .i64]]], [.v (.bool)], fun a => (fun a => len40n a.2 : Int × (List (Int)) → Bool) a, fun a => (fun a => !memD a.1 a.2 : Int × (List (Int)) → Bool) a⟩
theorem E_fl11_ok : E_fl11.Ok Try.prog := fun a hp vs hv => (fl11_run a hp).elim fun f h => fnX_ok (C := C_fl11) (Lt := Lt_fl11) (fn := Try.f76) (rs := [.tmp 3]) [.c (.int .i64), .cp [.sl [.int .i64]]] [.v (.bool)] mixed es_fl11 Try.func76 rfl rfl rfl (by kernel_rfl) (by kernel_rfl) f h vs hv
noncomputable def C_fl12 : Cfg := ⟨Try.prog, [E_scon], pmT [], 8, [], []⟩
theorem es_fl12 : EsOk Try.prog [E_scon] [] := es_cons E_scon_ok (es_nil)
def Lt_fl12 : Nat → LD := ldT []
noncomputable def M_fl12 (f : Nat) (a : SId × (List (SId))) : Option (Bool) := (runX (C_fl12) Lt_fl12 (Kret Try.prog [.tmp 3] [.v (.bool)]) f [.code (bodyOf Try.f78)] (initX [.g tSId, .cp [.sl [.int .i64, .int .i64, .int .i64]]] a) : Option (ResT [.v (.bool)]))
theorem M_fl12_eq (f : Nat) (id : SId) (live : List (SId)) : M_fl12 (f + 1) (id, live) =
    bif len40n live then some !memD id live else none := by kernel_rfl
noncomputable def F_fl12 : (SId × (List (SId))) → Bool
  | (id, live) => !memD id live
noncomputable def P_fl12 : (SId × (List (SId))) → Bool
  | (id, live) => len40n live
theorem fl12_auto : ∀ a : SId × (List (SId)), Rns (fun f => M_fl12 f a) (P_fl12 a) (F_fl12 a)
  | (id, live) => ev_step (fun f => M_fl12_eq f _ _) (ev_chk1 ev_some)
theorem fl12_P : ∀ a : SId × List SId, len40n a.2 = true → P_fl12 a = true := fun a h => h
theorem fl12_F : ∀ a : SId × List SId, len40n a.2 = true → F_fl12 a = !memD a.1 a.2 := fun a _ => rfl
theorem fl12_run : ∀ a, (fun a => len40n a.2 : SId × (List (SId)) → Bool) a = true → ∃ f, M_fl12 f a = some ((fun a => !memD a.1 a.2 : SId × (List (SId)) → Bool) a) := fun a h => by have h1 := fl12_auto a (fl12_P a h); rw [fl12_F a h] at h1; exact h1
noncomputable def E_fl12 : Ent := ⟨78, [.g tSId, .cp [.sl [.int .i64, .int .i64, .int .i64]]], [.v (.bool)], fun a => (fun a => len40n a.2 : SId × (List (SId)) → Bool) a, fun a => (fun a => !memD a.1 a.2 : SId × (List (SId)) → Bool) a⟩
theorem E_fl12_ok : E_fl12.Ok Try.prog := fun a hp vs hv => (fl12_run a hp).elim fun f h => fnX_ok (C := C_fl12) (Lt := Lt_fl12) (fn := Try.f78) (rs := [.tmp 3]) [.g tSId, .cp [.sl [.int .i64, .int .i64, .int .i64]]] [.v (.bool)] mixed es_fl12 Try.func78 rfl rfl rfl (by kernel_rfl) (by kernel_rfl) f h vs hv
theorem find_any {α : Type} (p : α → Bool) : ∀ (l : List α) (k : Int), 0 ≤ k → decide (findI p l k ≥ 0) = l.any p
  | [], k, hk => rfl
  | a :: l, k, hk => by
    have i := find_any p l (k + 1) (by omega)
    cases hp : p a
    · simp only [findI, List.any_cons, hp, cond_false, Bool.false_or]; exact i
    · simp only [findI, List.any_cons, hp, cond_true, Bool.true_or]; exact decide_eq_true hk
noncomputable def C_ix11 : Cfg := ⟨Try.prog, [E_fl11], pmT [], 19, [], []⟩
theorem es_ix11 : EsOk Try.prog [E_fl11] [] := es_cons E_fl11_ok (es_nil)
def Lt_ix11 : Nat → LD := ldT [(0, ⟨[.rd 0 [.int .i64], .fn 1 76 [[.sl [.int .i64]]], .c 7 (.int .i64), .c 8 (.int .i64)], [], 0⟩)]
noncomputable def M_ix11 (f : Nat) (a : (List (Int)) × (List (Int))) : Option (Int) := (runX (C_ix11) Lt_ix11 (Kret Try.prog [.tmp 4] [.v (.int .i64)]) f [.code (bodyOf Try.f111)] (initX [.rd [.int .i64], .fn 76 [[.sl [.int .i64]]]] a) : Option (ResT [.v (.int .i64)]))
noncomputable def L_ix11_0 (f : Nat) (x : (List (Int)) × (List (Int)) × Int × Int) : Option (Int) := (runX (C_ix11) Lt_ix11 (Kret Try.prog [.tmp 4] [.v (.int .i64)]) f (headOf Try.f111 0) ((Lt_ix11 0).mk' x) : Option (ResT [.v (.int .i64)]))
theorem M_ix11_eq (f : Nat) (s : List (Int)) (pf : List (Int)) : M_ix11 (f + 1) (s, pf) =
    L_ix11_0 f (s, pf, (↑s.length : Int), 0) := by kernel_rfl
theorem L_ix11_0_eq (f : Nat) (s : List (Int)) (f0 : List (Int)) (x7 : Int) (x8 : Int) : L_ix11_0 (f + 1) (s, f0, x7, x8) =
    bif decide (x8 < x7) then bif decide (0 ≤ x8) && decide (x8 < (↑s.length : Int)) then bif len40n f0 then bif !memD (s.getD x8.toNat 0) f0 then some x8 else L_ix11_0 f (s, f0, x7, IntKind.i64.wrap (x8 + 1)) else none else none else some (-1) := by kernel_rfl
noncomputable def F_ix11_0 : List (Int) → ((List (Int)) × (List (Int)) × Int × Nat) → Int
  | [], (s, f0, x7, x8) => -1
  | uu :: rest, (s, f0, x7, x8) => bif !memD uu f0 then (↑x8 : Int) else F_ix11_0 rest (s, f0, x7, x8 + 1)
noncomputable def P_ix11_0 : List (Int) → ((List (Int)) × (List (Int)) × Int × Nat) → Bool
  | [], (s, f0, x7, x8) => true
  | uu :: rest, (s, f0, x7, x8) => len40n f0 && bif !memD uu f0 then true else P_ix11_0 rest (s, f0, x7, x8 + 1)
theorem A_ix11_0 : ∀ (rest : List (Int)) (s : List (Int)) (f0 : List (Int)) (x7 : Int) (x8 : Nat) (hd : s.drop x8 = rest) (hn : x7 = ((s.length : Nat) : Int)) (hl : s.length ≤ 1099511627776), Rns (fun f => L_ix11_0 f (s, f0, x7, ((x8 : Nat) : Int))) (P_ix11_0 rest (s, f0, x7, x8)) (F_ix11_0 rest (s, f0, x7, x8))
  | [], s, f0, x7, x8, hd, hn, hl => ev_step (T := fun f => some (-1)) (fun f => (L_ix11_0_eq f _ _ _ _).trans (by simp only [ge_decn hn (drop_ge hd), ge0, Bool.and_self, Bool.true_and, cond_true, cond_false, List.length_set] <;> rfl)) ev_some
  | uu :: rest, s, f0, x7, x8, hd, hn, hl => ev_step (T := fun f => bif len40n f0 then bif !memD uu f0 then some (↑x8 : Int) else L_ix11_0 f (s, f0, x7, (↑(x8 + 1) : Int)) else none) (fun f => (L_ix11_0_eq f _ _ _ _).trans (by simp only [lt_decn hn (drop_lt hd), lt_dec (drop_lt hd), drop_get hd, wrap_succ (drop_lt hd) hl, getD_set (drop_lt hd), ge0, Bool.and_self, Bool.true_and, cond_true, cond_false, List.length_set] <;> rfl)) (ev_chk (ev_bif ev_some (A_ix11_0 rest _ _ _ _ (by first | exact drop_succ hd | exact drop_set hd | exact drop_setS (drop_set hd)) (by first | exact hn | simpa using hn) (by first | exact hl | simpa using hl))))
noncomputable def F_ix11 : ((List (Int)) × (List (Int))) → Int
  | (s, pf) => F_ix11_0 s (s, pf, (↑s.length : Int), 0)
noncomputable def P_ix11 : ((List (Int)) × (List (Int))) → Bool
  | (s, pf) => decide (s.length ≤ 1099511627776) && P_ix11_0 s (s, pf, (↑s.length : Int), 0)
theorem ix11_auto : ∀ a : (List (Int)) × (List (Int)), Rns (fun f => M_ix11 f a) (P_ix11 a) (F_ix11 a)
  | (s, pf) => ev_step (fun f => M_ix11_eq f _ _) (ev_and fun hh => A_ix11_0 _ _ _ _ _ rfl (by first | rfl | simp) (of_decide_eq_true hh))
theorem ix11_0 (s : List Int) (q : List Int) (x7 : Int) (hq : len40n q = true) : ∀ (r : List Int) (k : Nat), F_ix11_0 r (s, q, x7, k) = findI (fun b => !memD b q) r ((k : Nat) : Int) ∧ P_ix11_0 r (s, q, x7, k) = true
  | [], k => ⟨rfl, rfl⟩
  | u :: r, k => by
    obtain ⟨i1, i2⟩ := ix11_0 s q x7 hq r (k + 1)
    simp only [F_ix11_0, P_ix11_0, i1, i2, hq, findI]
    cases memD u q <;> exact ⟨rfl, rfl⟩
theorem ix11_P : ∀ a : List Int × List Int, (fun a : List Int × List Int => len40n a.1 && len40n a.2) a = true → P_ix11 a = true := fun a h => by
  obtain ⟨h1, h2⟩ := Bool.and_eq_true_iff.1 h
  simp only [P_ix11, (ix11_0 a.1 a.2 _ h2 a.1 0).2, Bool.and_true]
  exact h1
theorem ix11_F : ∀ a : List Int × List Int, (fun a : List Int × List Int => len40n a.1 && len40n a.2) a = true → F_ix11 a = (fun a : List Int × List Int => findI (fun b => !memD b a.2) a.1 0) a := fun a h => by
  obtain ⟨h1, h2⟩ := Bool.and_eq_true_iff.1 h
  simp only [F_ix11, (ix11_0 a.1 a.2 _ h2 a.1 0).1]; rfl
theorem ix11_run : ∀ a, (fun a => len40n a.1 && len40n a.2 : (List (Int)) × (List (Int)) → Bool) a = true → ∃ f, M_ix11 f a = some ((fun a => findI (fun b => !memD b a.2) a.1 0 : (List (Int)) × (List (Int)) → Int) a) := fun a h => by have h1 := ix11_auto a (ix11_P a h); rw [ix11_F a h] at h1; exact h1
noncomputable def E_ix11 : Ent := ⟨111, [.rd [.int .i64], .fn 76 [[.sl [.int .i64]]]], [.v (.int .i64)], fun a => (fun a => len40n a.1 && len40n a.2 : (List (Int)) × (List (Int)) → Bool) a, fun a => (fun a => findI (fun b => !memD b a.2) a.1 0 : (List (Int)) × (List (Int)) → Int) a⟩
theorem E_ix11_ok : E_ix11.Ok Try.prog := fun a hp vs hv => (ix11_run a hp).elim fun f h => fnX_ok (C := C_ix11) (Lt := Lt_ix11) (fn := Try.f111) (rs := [.tmp 4]) [.rd [.int .i64], .fn 76 [[.sl [.int .i64]]]] [.v (.int .i64)] mixed es_ix11 Try.func111 rfl rfl rfl (by kernel_rfl) (by kernel_rfl) f h vs hv
noncomputable def C_cf11 : Cfg := ⟨Try.prog, [E_ix11], pmT [], 9, [], []⟩
theorem es_cf11 : EsOk Try.prog [E_ix11] [] := es_cons E_ix11_ok (es_nil)
def Lt_cf11 : Nat → LD := ldT []
noncomputable def M_cf11 (f : Nat) (a : (List (Int)) × (List (Int))) : Option (Bool) := (runX (C_cf11) Lt_cf11 (Kret Try.prog [.tmp 4] [.v (.bool)]) f [.code (bodyOf Try.f75)] (initX [.rd [.int .i64], .fn 76 [[.sl [.int .i64]]]] a) : Option (ResT [.v (.bool)]))
theorem M_cf11_eq (f : Nat) (s : List (Int)) (pf : List (Int)) : M_cf11 (f + 1) (s, pf) =
    bif len40n s && len40n pf then some (decide (findI (fun b => !memD b pf) s 0 ≥ 0)) else none := by kernel_rfl
noncomputable def F_cf11 : ((List (Int)) × (List (Int))) → Bool
  | (s, pf) => decide (findI (fun b => !memD b pf) s 0 ≥ 0)
noncomputable def P_cf11 : ((List (Int)) × (List (Int))) → Bool
  | (s, pf) => len40n s && len40n pf
theorem cf11_auto : ∀ a : (List (Int)) × (List (Int)), Rns (fun f => M_cf11 f a) (P_cf11 a) (F_cf11 a)
  | (s, pf) => ev_step (fun f => M_cf11_eq f _ _) (ev_chk1 ev_some)
theorem cf11_P : ∀ a : List Int × List Int, (fun a : List Int × List Int => len40n a.1 && len40n a.2) a = true → P_cf11 a = true := fun a h => h
theorem cf11_F : ∀ a : List Int × List Int, (fun a : List Int × List Int => len40n a.1 && len40n a.2) a = true → F_cf11 a = (fun a : List Int × List Int => a.1.any (fun b => !memD b a.2)) a := fun a h => find_any _ a.1 0 (Int.le_refl _)
theorem cf11_run : ∀ a, (fun a => len40n a.1 && len40n a.2 : (List (Int)) × (List (Int)) → Bool) a = true → ∃ f, M_cf11 f a = some ((fun a => a.1.any (fun b => !memD b a.2) : (List (Int)) × (List (Int)) → Bool) a) := fun a h => by have h1 := cf11_auto a (cf11_P a h); rw [cf11_F a h] at h1; exact h1
noncomputable def E_cf11 : Ent := ⟨75, [.rd [.int .i64], .fn 76 [[.sl [.int .i64]]]], [.v (.bool)], fun a => (fun a => len40n a.1 && len40n a.2 : (List (Int)) × (List (Int)) → Bool) a, fun a => (fun a => a.1.any (fun b => !memD b a.2) : (List (Int)) × (List (Int)) → Bool) a⟩
theorem E_cf11_ok : E_cf11.Ok Try.prog := fun a hp vs hv => (cf11_run a hp).elim fun f h => fnX_ok (C := C_cf11) (Lt := Lt_cf11) (fn := Try.f75) (rs := [.tmp 4]) [.rd [.int .i64], .fn 76 [[.sl [.int .i64]]]] [.v (.bool)] mixed es_cf11 Try.func75 rfl rfl rfl (by kernel_rfl) (by kernel_rfl) f h vs hv
noncomputable def C_ix12 : Cfg := ⟨Try.prog, [E_fl12], pmT [], 19, [], []⟩
theorem es_ix12 : EsOk Try.prog [E_fl12] [] := es_cons E_fl12_ok (es_nil)
def Lt_ix12 : Nat → LD := ldT [(0, ⟨[.rd 0 tSId, .fn 1 78 [[.sl [.int .i64, .int .i64, .int .i64]]], .c 7 (.int .i64), .c 8 (.int .i64)], [], 0⟩)]
noncomputable def M_ix12 (f : Nat) (a : (List (SId)) × (List (SId))) : Option (Int) := (runX (C_ix12) Lt_ix12 (Kret Try.prog [.tmp 4] [.v (.int .i64)]) f [.code (bodyOf Try.f112)] (initX [.rd tSId, .fn 78 [[.sl [.int .i64, .int .i64, .int .i64]]]] a) : Option (ResT [.v (.int .i64)]))
noncomputable def L_ix12_0 (f : Nat) (x : (List (SId)) × (List (SId)) × Int × Int) : Option (Int) := (runX (C_ix12) Lt_ix12 (Kret Try.prog [.tmp 4] [.v (.int .i64)]) f (headOf Try.f112 0) ((Lt_ix12 0).mk' x) : Option (ResT [.v (.int .i64)]))
theorem M_ix12_eq (f : Nat) (s : List (SId)) (pf : List (SId)) : M_ix12 (f + 1) (s, pf) =
    L_ix12_0 f (s, pf, (↑s.length : Int), 0) := by kernel_rfl
theorem L_ix12_0_eq (f : Nat) (s : List (SId)) (f0 : List (SId)) (x7 : Int) (x8 : Int) : L_ix12_0 (f + 1) (s, f0, x7, x8) =
    bif decide (x8 < x7) then bif decide (0 ≤ x8) && decide (x8 < (↑s.length : Int)) then bif len40n f0 then bif !memD (s.getD x8.toNat (0, 0, 0)) f0 then some x8 else L_ix12_0 f (s, f0, x7, IntKind.i64.wrap (x8 + 1)) else none else none else some (-1) := by kernel_rfl
noncomputable def F_ix12_0 : List (SId) → ((List (SId)) × (List (SId)) × Int × Nat) → Int
  | [], (s, f0, x7, x8) => -1
  | uu :: rest, (s, f0, x7, x8) => bif !memD uu f0 then (↑x8 : Int) else F_ix12_0 rest (s, f0, x7, x8 + 1)
noncomputable def P_ix12_0 : List (SId) → ((List (SId)) × (List (SId)) × Int × Nat) → Bool
  | [], (s, f0, x7, x8) => true
  | uu :: rest, (s, f0, x7, x8) => len40n f0 && bif !memD uu f0 then true else P_ix12_0 rest (s, f0, x7, x8 + 1)
theorem A_ix12_0 : ∀ (rest : List (SId)) (s : List (SId)) (f0 : List (SId)) (x7 : Int) (x8 : Nat) (hd : s.drop x8 = rest) (hn : x7 = ((s.length : Nat) : Int)) (hl : s.length ≤ 1099511627776), Rns (fun f => L_ix12_0 f (s, f0, x7, ((x8 : Nat) : Int))) (P_ix12_0 rest (s, f0, x7, x8)) (F_ix12_0 rest (s, f0, x7, x8))
  | [], s, f0, x7, x8, hd, hn, hl => ev_step (T := fun f => some (-1)) (fun f => (L_ix12_0_eq f _ _ _ _).trans (by simp only [ge_decn hn (drop_ge hd), ge0, Bool.and_self, Bool.true_and, cond_true, cond_false, List.length_set] <;> rfl)) ev_some
  | uu :: rest, s, f0, x7, x8, hd, hn, hl => ev_step (T := fun f => bif len40n f0 then bif !memD uu f0 then some (↑x8 : Int) else L_ix12_0 f (s, f0, x7, (↑(x8 + 1) : Int)) else none) (fun f => (L_ix12_0_eq f _ _ _ _).trans (by simp only [lt_decn hn (drop_lt hd), lt_dec (drop_lt hd), drop_get hd, wrap_succ (drop_lt hd) hl, getD_set (drop_lt hd), ge0, Bool.and_self, Bool.true_and, cond_true, cond_false, List.length_set] <;> rfl)) (ev_chk (ev_bif ev_some (A_ix12_0 rest _ _ _ _ (by first | exact drop_succ hd | exact drop_set hd | exact drop_setS (drop_set hd)) (by first | exact hn | simpa using hn) (by first | exact hl | simpa using hl))))
noncomputable def F_ix12 : ((List (SId)) × (List (SId))) → Int
  | (s, pf) => F_ix12_0 s (s, pf, (↑s.length : Int), 0)
noncomputable def P_ix12 : ((List (SId)) × (List (SId))) → Bool
  | (s, pf) => decide (s.length ≤ 1099511627776) && P_ix12_0 s (s, pf, (↑s.length : Int), 0)
theorem ix12_auto : ∀ a : (List (SId)) × (List (SId)), Rns (fun f => M_ix12 f a) (P_ix12 a) (F_ix12 a)
  | (s, pf) => ev_step (fun f => M_ix12_eq f _ _) (ev_and fun hh => A_ix12_0 _ _ _ _ _ rfl (by first | rfl | simp) (of_decide_eq_true hh))
theorem ix12_0 (s : List SId) (q : List SId) (x7 : Int) (hq : len40n q = true) : ∀ (r : List SId) (k : Nat), F_ix12_0 r (s, q, x7, k) = findI (fun b => !memD b q) r ((k : Nat) : Int) ∧ P_ix12_0 r (s, q, x7, k) = true
  | [], k => ⟨rfl, rfl⟩
  | u :: r, k => by
    obtain ⟨i1, i2⟩ := ix12_0 s q x7 hq r (k + 1)
    simp only [F_ix12_0, P_ix12_0, i1, i2, hq, findI]
    cases memD u q <;> exact ⟨rfl, rfl⟩
theorem ix12_P : ∀ a : List SId × List SId, (fun a : List SId × List SId => len40n a.1 && len40n a.2) a = true → P_ix12 a = true := fun a h => by
  obtain ⟨h1, h2⟩ := Bool.and_eq_true_iff.1 h
  simp only [P_ix12, (ix12_0 a.1 a.2 _ h2 a.1 0).2, Bool.and_true]
  exact h1
theorem ix12_F : ∀ a : List SId × List SId, (fun a : List SId × List SId => len40n a.1 && len40n a.2) a = true → F_ix12 a = (fun a : List SId × List SId => findI (fun b => !memD b a.2) a.1 0) a := fun a h => by
  obtain ⟨h1, h2⟩ := Bool.and_eq_true_iff.1 h
  simp only [F_ix12, (ix12_0 a.1 a.2 _ h2 a.1 0).1]; rfl
theorem ix12_run : ∀ a, (fun a => len40n a.1 && len40n a.2 : (List (SId)) × (List (SId)) → Bool) a = true → ∃ f, M_ix12 f a = some ((fun a => findI (fun b => !memD b a.2) a.1 0 : (List (SId)) × (List (SId)) → Int) a) := fun a h => by have h1 := ix12_auto a (ix12_P a h); rw [ix12_F a h] at h1; exact h1
noncomputable def E_ix12 : Ent := ⟨112, [.rd tSId, .fn 78 [[.sl [.int .i64, .int .i64, .int .i64]]]], [.v (.int .i64)], fun a => (fun a => len40n a.1 && len40n a.2 : (List (SId)) × (List (SId)) → Bool) a, fun a => (fun a => findI (fun b => !memD b a.2) a.1 0 : (List (SId)) × (List (SId)) → Int) a⟩
theorem E_ix12_ok : E_ix12.Ok Try.prog := fun a hp vs hv => (ix12_run a hp).elim fun f h => fnX_ok (C := C_ix12) (Lt := Lt_ix12) (fn := Try.f112) (rs := [.tmp 4]) [.rd tSId, .fn 78 [[.sl [.int .i64, .int .i64, .int .i64]]]] [.v (.int .i64)] mixed es_ix12 Try.func112 rfl rfl rfl (by kernel_rfl) (by kernel_rfl) f h vs hv
noncomputable def C_cf12 : Cfg := ⟨Try.prog, [E_ix12], pmT [], 9, [], []⟩
theorem es_cf12 : EsOk Try.prog [E_ix12] [] := es_cons E_ix12_ok (es_nil)
def Lt_cf12 : Nat → LD := ldT []
noncomputable def M_cf12 (f : Nat) (a : (List (SId)) × (List (SId))) : Option (Bool) := (runX (C_cf12) Lt_cf12 (Kret Try.prog [.tmp 4] [.v (.bool)]) f [.code (bodyOf Try.f77)] (initX [.rd tSId, .fn 78 [[.sl [.int .i64, .int .i64, .int .i64]]]] a) : Option (ResT [.v (.bool)]))
theorem M_cf12_eq (f : Nat) (s : List (SId)) (pf : List (SId)) : M_cf12 (f + 1) (s, pf) =
    bif len40n s && len40n pf then some (decide (findI (fun b => !memD b pf) s 0 ≥ 0)) else none := by kernel_rfl
noncomputable def F_cf12 : ((List (SId)) × (List (SId))) → Bool
  | (s, pf) => decide (findI (fun b => !memD b pf) s 0 ≥ 0)
noncomputable def P_cf12 : ((List (SId)) × (List (SId))) → Bool
  | (s, pf) => len40n s && len40n pf
theorem cf12_auto : ∀ a : (List (SId)) × (List (SId)), Rns (fun f => M_cf12 f a) (P_cf12 a) (F_cf12 a)
  | (s, pf) => ev_step (fun f => M_cf12_eq f _ _) (ev_chk1 ev_some)
theorem cf12_P : ∀ a : List SId × List SId, (fun a : List SId × List SId => len40n a.1 && len40n a.2) a = true → P_cf12 a = true := fun a h => h
theorem cf12_F : ∀ a : List SId × List SId, (fun a : List SId × List SId => len40n a.1 && len40n a.2) a = true → F_cf12 a = (fun a : List SId × List SId => a.1.any (fun b => !memD b a.2)) a := fun a h => find_any _ a.1 0 (Int.le_refl _)
theorem cf12_run : ∀ a, (fun a => len40n a.1 && len40n a.2 : (List (SId)) × (List (SId)) → Bool) a = true → ∃ f, M_cf12 f a = some ((fun a => a.1.any (fun b => !memD b a.2) : (List (SId)) × (List (SId)) → Bool) a) := fun a h => by have h1 := cf12_auto a (cf12_P a h); rw [cf12_F a h] at h1; exact h1
noncomputable def E_cf12 : Ent := ⟨77, [.rd tSId, .fn 78 [[.sl [.int .i64, .int .i64, .int .i64]]]], [.v (.bool)], fun a => (fun a => len40n a.1 && len40n a.2 : (List (SId)) × (List (SId)) → Bool) a, fun a => (fun a => a.1.any (fun b => !memD b a.2) : (List (SId)) × (List (SId)) → Bool) a⟩
theorem E_cf12_ok : E_cf12.Ok Try.prog := fun a hp vs hv => (cf12_run a hp).elim fun f h => fnX_ok (C := C_cf12) (Lt := Lt_cf12) (fn := Try.f77) (rs := [.tmp 4]) [.rd tSId, .fn 78 [[.sl [.int .i64, .int .i64, .int .i64]]]] [.v (.bool)] mixed es_cf12 Try.func77 rfl rfl rfl (by kernel_rfl) (by kernel_rfl) f h vs hv
def fl1Pre (a : STr × List Int × List SId) : Bool := trPre a.1 && (len40n a.2.1 && len40n a.2.2)
theorem all_any {α : Type} (l : List α) (p : α → Bool) : (!l.any (fun b => !p b)) = l.all p := by
  induction l with
  | nil => rfl
  | cons a l ih => rw [List.any_cons, List.all_cons, ← ih]; cases p a <;> rfl
noncomputable def C_flu1 : Cfg := ⟨Try.prog, [E_cf11, E_cf12], pmT [], 17, [], []⟩
theorem es_flu1 : EsOk Try.prog [E_cf11, E_cf12] [] := es_cons E_cf11_ok (es_cons E_cf12_ok (es_nil))
def Lt_flu1 : Nat → LD := ldT []
noncomputable def M_flu1 (f : Nat) (a : STr × (List (Int)) × (List (SId))) : Option (Bool) := (runX (C_flu1) Lt_flu1 (Kret Try.prog [.tmp 4] [.v (.bool)]) f [.code (bodyOf Try.f74)] (initX [.g tSTr, .cp [.sl [.int .i64]], .cp [.sl [.int .i64, .int .i64, .int .i64]]] a) : Option (ResT [.v (.bool)]))
theorem M_flu1_eq (f : Nat) (t : STr) (tables : List (Int)) (live : List (SId)) : M_flu1 (f + 1) (t, tables, live) =
    bif len40n t.2.2.2.2.2 && len40n tables then bif !List.any t.2.2.2.2.2 fun b => !memD b tables then bif len40n t.2.2.2.2.1 && len40n live then some !List.any t.2.2.2.2.1 fun b => !memD b live else none else some false else none := by kernel_rfl
noncomputable def F_flu1 : (STr × (List (Int)) × (List (SId))) → Bool
  | (t, tables, live) => bif !List.any t.2.2.2.2.2 fun b => !memD b tables then !List.any t.2.2.2.2.1 fun b => !memD b live else false
noncomputable def P_flu1 : (STr × (List (Int)) × (List (SId))) → Bool
  | (t, tables, live) => len40n t.2.2.2.2.2 && len40n tables && bif !List.any t.2.2.2.2.2 fun b => !memD b tables then len40n t.2.2.2.2.1 && len40n live else true
theorem flu1_auto : ∀ a : STr × (List (Int)) × (List (SId)), Rns (fun f => M_flu1 f a) (P_flu1 a) (F_flu1 a)
  | (t, tables, live) => ev_step (fun f => M_flu1_eq f _ _ _) (ev_chk (ev_bif (ev_chk1 ev_some) ev_some))
theorem flu1_F0 (t : STr) (tables : List Int) (live : List SId) : F_flu1 (t, tables, live) = keepL live tables t := by
  simp only [F_flu1, keepL]
  rw [all_any t.2.2.2.2.2 (fun b => memD b tables), all_any t.2.2.2.2.1 (fun b => memD b live)]
  cases t.2.2.2.2.2.all (fun b => memD b tables)
  · rw [Bool.and_false]; rfl
  · rw [Bool.and_true]; rfl
theorem flu1_P : ∀ a : STr × List Int × List SId, fl1Pre a = true → P_flu1 a = true := by
  rintro ⟨t, tables, live⟩ h
  obtain ⟨h0, h12⟩ := Bool.and_eq_true_iff.1 h
  obtain ⟨h1, h2⟩ := Bool.and_eq_true_iff.1 h12
  obtain ⟨k1, k2⟩ := Bool.and_eq_true_iff.1 (tr40 h0)
  have h1 : len40n tables = true := h1
  have h2 : len40n live = true := h2
  have k1 : len40n t.2.2.2.2.1 = true := k1
  have k2 : len40n t.2.2.2.2.2 = true := k2
  simp only [P_flu1, h1, h2, k1, k2, Bool.true_and, Bool.and_self]
  cases (!t.2.2.2.2.2.any fun b => !memD b tables) <;> rfl
theorem flu1_F : ∀ a : STr × List Int × List SId, fl1Pre a = true → F_flu1 a = (fun a : STr × List Int × List SId => keepL a.2.2 a.2.1 a.1) a := fun a _ => flu1_F0 a.1 a.2.1 a.2.2
theorem flu1_run : ∀ a, (fl1Pre : STr × (List (Int)) × (List (SId)) → Bool) a = true → ∃ f, M_flu1 f a = some ((fun a => keepL a.2.2 a.2.1 a.1 : STr × (List (Int)) × (List (SId)) → Bool) a) := fun a h => by have h1 := flu1_auto a (flu1_P a h); rw [flu1_F a h] at h1; exact h1
noncomputable def E_flu1 : Ent := ⟨74, [.g tSTr, .cp [.sl [.int .i64]], .cp [.sl [.int .i64, .int .i64, .int .i64]]], [.v (.bool)], fun a => (fl1Pre : STr × (List (Int)) × (List (SId)) → Bool) a, fun a => (fun a => keepL a.2.2 a.2.1 a.1 : STr × (List (Int)) × (List (SId)) → Bool) a⟩
theorem E_flu1_ok : E_flu1.Ok Try.prog := fun a hp vs hv => (flu1_run a hp).elim fun f h => fnX_ok (C := C_flu1) (Lt := Lt_flu1) (fn := Try.f74) (rs := [.tmp 4]) [.g tSTr, .cp [.sl [.int .i64]], .cp [.sl [.int .i64, .int .i64, .int .i64]]] [.v (.bool)] mixed es_flu1 Try.func74 rfl rfl rfl (by kernel_rfl) (by kernel_rfl) f h vs hv
noncomputable def C_flq : Cfg := ⟨Try.prog, [E_ctr, E_flu1], pmT [], 24, [], []⟩
theorem es_flq : EsOk Try.prog [E_ctr, E_flu1] [] := es_cons E_ctr_ok (es_cons E_flu1_ok (es_nil))
def Lt_flq : Nat → LD := ldT [(0, ⟨[.fn 1 74 [[.sl [.int .i64]], [.sl [.int .i64, .int .i64, .int .i64]]], .list 5 999 45 6 tSTr, .rd 8 tSTr, .c 9 (.int .i64), .c 10 (.int .i64)], [], 0⟩)]
noncomputable def M_flq (f : Nat) (a : (List (STr)) × (List (Int) × List (SId))) : Option ((List (STr))) := (runX (C_flq) Lt_flq (Kret Try.prog [.tmp 4] [.o 45 6 tSTr]) f [.code (bodyOf Try.f71)] (initX [.rd tSTr, .fn 74 [[.sl [.int .i64]], [.sl [.int .i64, .int .i64, .int .i64]]]] a) : Option (ResT [.o 45 6 tSTr]))
noncomputable def L_flq_0 (f : Nat) (x : (List (Int) × List (SId)) × (List (STr)) × (List (STr)) × Int × Int) : Option ((List (STr))) := (runX (C_flq) Lt_flq (Kret Try.prog [.tmp 4] [.o 45 6 tSTr]) f (headOf Try.f71 0) ((Lt_flq 0).mk' x) : Option (ResT [.o 45 6 tSTr]))
theorem M_flq_eq (f : Nat) (tlb : List (STr)) (keep : List (Int) × List (SId)) : M_flq (f + 1) (tlb, keep) =
    L_flq_0 f (keep, [], tlb, (↑tlb.length : Int), 0) := by kernel_rfl
theorem L_flq_0_eq (f : Nat) (keep : List (Int) × List (SId)) (out : List (STr)) (x8 : List (STr)) (x9 : Int) (x10 : Int) : L_flq_0 (f + 1) (keep, out, x8, x9, x10) =
    bif decide (x10 < x9) then bif decide (0 ≤ x10) && decide (x10 < (↑x8.length : Int)) then bif fl1Pre (x8.getD x10.toNat (0, 0, 0, 0, [], []), keep) then bif keepL keep.2 keep.1 (x8.getD x10.toNat (0, 0, 0, 0, [], [])) then bif len40n (x8.getD x10.toNat (0, 0, 0, 0, [], [])).2.2.2.2.1 && len40n (x8.getD x10.toNat (0, 0, 0, 0, [], [])).2.2.2.2.2 then bif decide ((out.length + [x8.getD x10.toNat (0, 0, 0, 0, [], [])].length) * 80 ≤ 140737488355328) then L_flq_0 f (keep, out ++ [x8.getD x10.toNat (0, 0, 0, 0, [], [])], x8, x9, IntKind.i64.wrap (x10 + 1)) else none else none else L_flq_0 f (keep, out, x8, x9, IntKind.i64.wrap (x10 + 1)) else none else none else some out := by kernel_rfl
noncomputable def F_flq_0 : List (STr) → ((List (Int) × List (SId)) × (List (STr)) × (List (STr)) × Int × Nat) → (List (STr))
  | [], (keep, out, x8, x9, x10) => out
  | uu :: rest, (keep, out, x8, x9, x10) => bif keepL keep.2 keep.1 uu then F_flq_0 rest (keep, out ++ [uu], x8, x9, x10 + 1) else F_flq_0 rest (keep, out, x8, x9, x10 + 1)
noncomputable def P_flq_0 : List (STr) → ((List (Int) × List (SId)) × (List (STr)) × (List (STr)) × Int × Nat) → Bool
  | [], (keep, out, x8, x9, x10) => true
  | uu :: rest, (keep, out, x8, x9, x10) => fl1Pre (uu, keep) && bif keepL keep.2 keep.1 uu then len40n uu.2.2.2.2.1 && len40n uu.2.2.2.2.2 && (decide ((out.length + [uu].length) * 80 ≤ 140737488355328) && P_flq_0 rest (keep, out ++ [uu], x8, x9, x10 + 1)) else P_flq_0 rest (keep, out, x8, x9, x10 + 1)
theorem A_flq_0 : ∀ (rest : List (STr)) (keep : List (Int) × List (SId)) (out : List (STr)) (x8 : List (STr)) (x9 : Int) (x10 : Nat) (hd : x8.drop x10 = rest) (hn : x9 = ((x8.length : Nat) : Int)) (hl : x8.length ≤ 1099511627776), Rns (fun f => L_flq_0 f (keep, out, x8, x9, ((x10 : Nat) : Int))) (P_flq_0 rest (keep, out, x8, x9, x10)) (F_flq_0 rest (keep, out, x8, x9, x10))
  | [], keep, out, x8, x9, x10, hd, hn, hl => ev_step (T := fun f => some out) (fun f => (L_flq_0_eq f _ _ _ _ _).trans (by simp only [ge_decn hn (drop_ge hd), ge0, Bool.and_self, Bool.true_and, cond_true, cond_false, List.length_set] <;> rfl)) ev_some
  | uu :: rest, keep, out, x8, x9, x10, hd, hn, hl => ev_step (T := fun f => bif fl1Pre (uu, keep) then bif keepL keep.2 keep.1 uu then bif len40n uu.2.2.2.2.1 && len40n uu.2.2.2.2.2 then bif decide ((out.length + [uu].length) * 80 ≤ 140737488355328) then L_flq_0 f (keep, out ++ [uu], x8, x9, (↑(x10 + 1) : Int)) else none else none else L_flq_0 f (keep, out, x8, x9, (↑(x10 + 1) : Int)) else none) (fun f => (L_flq_0_eq f _ _ _ _ _).trans (by simp only [lt_decn hn (drop_lt hd), lt_dec (drop_lt hd), drop_get hd, wrap_succ (drop_lt hd) hl, getD_set (drop_lt hd), ge0, Bool.and_self, Bool.true_and, cond_true, cond_false, List.length_set] <;> rfl)) (ev_chk (ev_bif (ev_chk (ev_chk (A_flq_0 rest _ _ _ _ _ (by first | exact drop_succ hd | exact drop_set hd | exact drop_setS (drop_set hd)) (by first | exact hn | simpa using hn) (by first | exact hl | simpa using hl)))) (A_flq_0 rest _ _ _ _ _ (by first | exact drop_succ hd | exact drop_set hd | exact drop_setS (drop_set hd)) (by first | exact hn | simpa using hn) (by first | exact hl | simpa using hl))))
noncomputable def F_flq : ((List (STr)) × (List (Int) × List (SId))) → (List (STr))
  | (tlb, keep) => F_flq_0 tlb (keep, [], tlb, (↑tlb.length : Int), 0)
noncomputable def P_flq : ((List (STr)) × (List (Int) × List (SId))) → Bool
  | (tlb, keep) => decide (tlb.length ≤ 1099511627776) && P_flq_0 tlb (keep, [], tlb, (↑tlb.length : Int), 0)
theorem flq_auto : ∀ a : (List (STr)) × (List (Int) × List (SId)), Rns (fun f => M_flq f a) (P_flq a) (F_flq a)
  | (tlb, keep) => ev_step (fun f => M_flq_eq f _ _) (ev_and fun hh => A_flq_0 _ _ _ _ _ _ rfl (by first | rfl | simp) (of_decide_eq_true hh))
theorem flq_0 (q : List Int × List SId) (h1 : len40n q.1 = true) (h2 : len40n q.2 = true) (x8 : List STr) (x9 : Int) : ∀ (r out : List STr) (k : Nat), (∀ e ∈ r, trPre e = true) → out.length + r.length ≤ 68719476736 → F_flq_0 r (q, out, x8, x9, k) = out ++ r.filter (keepL q.2 q.1) ∧ P_flq_0 r (q, out, x8, x9, k) = true
  | [], out, k, h, hl => ⟨by simp [F_flq_0], rfl⟩
  | u :: r, out, k, h, hl => by
    simp only [List.length_cons] at hl
    have h0 := h u (List.mem_cons_self ..)
    have hp : fl1Pre (u, q) = true := by simp only [fl1Pre, h0, h1, h2, Bool.and_self]
    have hu := tr40 h0
    obtain ⟨i1, i2⟩ := flq_0 q h1 h2 x8 x9 r (out ++ [u]) (k + 1) (fun e he => h e (List.mem_cons_of_mem _ he)) (by simp; omega)
    obtain ⟨j1, j2⟩ := flq_0 q h1 h2 x8 x9 r out (k + 1) (fun e he => h e (List.mem_cons_of_mem _ he)) (by omega)
    have e80 : decide ((out.length + [u].length) * 80 ≤ 140737488355328) = true := decide_eq_true (by simp only [List.length_singleton]; omega)
    simp only [F_flq_0, P_flq_0, i1, i2, j1, j2, hp, hu, e80, Bool.true_and, List.filter_cons]
    cases hk : keepL q.2 q.1 u
    · exact ⟨rfl, rfl⟩
    · refine ⟨?_, rfl⟩
      simp only [cond_true, if_true, List.append_assoc, List.singleton_append]
def flqPre (a : List STr × List Int × List SId) : Bool := okL a.1 && (len40n a.2.1 && len40n a.2.2)
theorem flq_P : ∀ a : List STr × List Int × List SId, flqPre a = true → P_flq a = true := fun a h => by
  obtain ⟨h0, h12⟩ := Bool.and_eq_true_iff.1 h
  obtain ⟨h1, h2⟩ := Bool.and_eq_true_iff.1 h12
  simp only [P_flq, (flq_0 a.2 h1 h2 _ _ a.1 [] 0 (fun e he => okL_mem h0 he) (by simpa using okL_len h0)).2, Bool.and_true]
  exact decide_eq_true (by have := okL_len h0; omega)
theorem flq_F : ∀ a : List STr × List Int × List SId, flqPre a = true → F_flq a = (fun a : List STr × List Int × List SId => a.1.filter (keepL a.2.2 a.2.1)) a := fun a h => by
  obtain ⟨h0, h12⟩ := Bool.and_eq_true_iff.1 h
  obtain ⟨h1, h2⟩ := Bool.and_eq_true_iff.1 h12
  simp only [F_flq, (flq_0 a.2 h1 h2 _ _ a.1 [] 0 (fun e he => okL_mem h0 he) (by simpa using okL_len h0)).1, List.nil_append]
theorem flq_run : ∀ a, (flqPre : (List (STr)) × (List (Int) × List (SId)) → Bool) a = true → ∃ f, M_flq f a = some ((fun a => a.1.filter (keepL a.2.2 a.2.1) : (List (STr)) × (List (Int) × List (SId)) → (List (STr))) a) := fun a h => by have h1 := flq_auto a (flq_P a h); rw [flq_F a h] at h1; exact h1
noncomputable def E_flq : Ent := ⟨71, [.rd tSTr, .fn 74 [[.sl [.int .i64]], [.sl [.int .i64, .int .i64, .int .i64]]]], [.o 45 6 tSTr], fun a => (flqPre : (List (STr)) × (List (Int) × List (SId)) → Bool) a, fun a => (fun a => a.1.filter (keepL a.2.2 a.2.1) : (List (STr)) × (List (Int) × List (SId)) → (List (STr))) a⟩
theorem E_flq_ok : E_flq.Ok Try.prog := fun a hp vs hv => (flq_run a hp).elim fun f h => fnX_ok (C := C_flq) (Lt := Lt_flq) (fn := Try.f71) (rs := [.tmp 4]) [.rd tSTr, .fn 74 [[.sl [.int .i64]], [.sl [.int .i64, .int .i64, .int .i64]]]] [.o 45 6 tSTr] mixed es_flq Try.func71 rfl rfl rfl (by kernel_rfl) (by kernel_rfl) f h vs hv
noncomputable def C_vflu : Cfg := ⟨Try.prog, [E_flq], pmT [], 10, [], []⟩
theorem es_vflu : EsOk Try.prog [E_flq] [] := es_cons E_flq_ok (es_nil)
def Lt_vflu : Nat → LD := ldT []
noncomputable def M_vflu (f : Nat) (a : (List (STr)) × (List (SId)) × (List (Int))) : Option ((List (STr))) := (runX (C_vflu) Lt_vflu (Kret Try.prog [.tmp 6] [.o 45 6 tSTr]) f [.code (bodyOf Try.f46)] (initX [.rd tSTr, .c (.sl [.int .i64, .int .i64, .int .i64]), .c (.sl [.int .i64])] a) : Option (ResT [.o 45 6 tSTr]))
theorem M_vflu_eq (f : Nat) (tlb : List (STr)) (live : List (SId)) (tables : List (Int)) : M_vflu (f + 1) (tlb, live, tables) =
    bif flqPre (tlb, tables, live) then some (List.filter (keepL live tables) tlb) else none := by kernel_rfl
noncomputable def F_vflu : ((List (STr)) × (List (SId)) × (List (Int))) → (List (STr))
  | (tlb, live, tables) => List.filter (keepL live tables) tlb
noncomputable def P_vflu : ((List (STr)) × (List (SId)) × (List (Int))) → Bool
  | (tlb, live, tables) => flqPre (tlb, tables, live)
theorem vflu_auto : ∀ a : (List (STr)) × (List (SId)) × (List (Int)), Rns (fun f => M_vflu f a) (P_vflu a) (F_vflu a)
  | (tlb, live, tables) => ev_step (fun f => M_vflu_eq f _ _ _) (ev_chk1 ev_some)
theorem vflu_P : ∀ a : List STr × List SId × List Int, fluPre a = true → P_vflu a = true := fun a h => by
  obtain ⟨h0, h12⟩ := Bool.and_eq_true_iff.1 h
  obtain ⟨h1, h2⟩ := Bool.and_eq_true_iff.1 h12
  simp only [P_vflu, flqPre, h0, h1, h2]; rfl
theorem vflu_F : ∀ a : List STr × List SId × List Int, fluPre a = true → F_vflu a = fluS a := fun a h => rfl
theorem vflu_run : ∀ a, (fluPre : (List (STr)) × (List (SId)) × (List (Int)) → Bool) a = true → ∃ f, M_vflu f a = some ((fluS : (List (STr)) × (List (SId)) × (List (Int)) → (List (STr))) a) := fun a h => by have h1 := vflu_auto a (vflu_P a h); rw [vflu_F a h] at h1; exact h1
noncomputable def E_vflu : Ent := ⟨46, [.rd tSTr, .c (.sl [.int .i64, .int .i64, .int .i64]), .c (.sl [.int .i64])], [.o 45 6 tSTr], fun a => (fluPre : (List (STr)) × (List (SId)) × (List (Int)) → Bool) a, fun a => (fluS : (List (STr)) × (List (SId)) × (List (Int)) → (List (STr))) a⟩
theorem E_vflu_ok : E_vflu.Ok Try.prog := fun a hp vs hv => (vflu_run a hp).elim fun f h => fnX_ok (C := C_vflu) (Lt := Lt_vflu) (fn := Try.f46) (rs := [.tmp 6]) [.rd tSTr, .c (.sl [.int .i64, .int .i64, .int .i64]), .c (.sl [.int .i64])] [.o 45 6 tSTr] mixed es_vflu Try.func46 rfl rfl rfl (by kernel_rfl) (by kernel_rfl) f h vs hv
end Go.AL
/-
  Layer 16: walks, Sync and caches: models. By an AI agent.
-/
namespace Go.AL
open Go.Proofs
set_option linter.unusedVariables false
set_option linter.unusedSimpArgs false
def keepM (live : List SId) (m : SMp) : Bool := memD m.2.2.2 live
def putT (out : List SPT) (t : SPT) (k : List SMp) : List SPT := bif decide (((k.length : Nat) : Int) > 0) then out ++ [(t.1, t.2.1, t.2.2.1, k)] else out
def synL (live : List SId) (tables : List Int) : List SPT → List SPT → List SPT
  | out, [] => out
  | out, t :: r => bif !memD t.1 tables then synL live tables out r else synL live tables (putT out t (t.2.2.2.filter (keepM live))) r
def synS (a : List SPT × List SId × List Int) : List SPT := synL a.2.1 a.2.2 [] a.1
def synPre (a : List SPT × List SId × List Int) : Bool := okT a.1 && (len40n a.2.1 && len40n a.2.2)
theorem putT_len (out : List SPT) (t : SPT) (k : List SMp) : (putT out t k).length ≤ out.length + 1 := by
  unfold putT; cases decide (((k.length : Nat) : Int) > 0) <;> simp
noncomputable def C_syn : Cfg := ⟨Try.prog, [E_icon, E_scon], pmT [], 51, [], [(43, tSMp)]⟩
theorem es_syn : EsOk Try.prog [E_icon, E_scon] [] := es_cons E_icon_ok (es_cons E_scon_ok (es_nil))
def Lt_syn : Nat → LD := ldT [(0, ⟨[.rd 1 tSId, .rd 2 [.int .i64], .list 7 999 60 4 tSPT, .rd 13 tSPT, .c 14 (.int .i64), .c 15 (.int .i64)], [], 0⟩), (2, ⟨[.rd 1 tSId, .rd 2 [.int .i64], .list 7 999 60 4 tSPT, .box 9 9 60 4 tSPT, .list 10 998 64 6 tSMp, .rd 13 tSPT, .c 14 (.int .i64), .c 15 (.int .i64), .c 25 (.sl tSMp), .c 26 (.int .i64), .c 27 (.int .i64)], [], 0⟩)]
noncomputable def M_syn (f : Nat) (a : (List (SPT)) × (List (SId)) × (List (Int))) : Option ((List (SPT))) := (runX (C_syn) Lt_syn (Kret Try.prog [.tmp 6] [.o 60 4 tSPT]) f [.code (bodyOf Try.f25)] (initX [.rd tSPT, .rd tSId, .rd [.int .i64]] a) : Option (ResT [.o 60 4 tSPT]))
noncomputable def L_syn_0 (f : Nat) (x : (List (SId)) × (List (Int)) × (List (SPT)) × (List (SPT)) × Int × Int) : Option ((List (SPT))) := (runX (C_syn) Lt_syn (Kret Try.prog [.tmp 6] [.o 60 4 tSPT]) f (headOf Try.f25 0) ((Lt_syn 0).mk' x) : Option (ResT [.o 60 4 tSPT]))
noncomputable def L_syn_2 (f : Nat) (x : (List (SId)) × (List (Int)) × (List (SPT)) × SPT × (List (SMp)) × (List (SPT)) × Int × Int × (List (SMp)) × Int × Int) : Option ((List (SPT))) := (runX (C_syn) Lt_syn (Kret Try.prog [.tmp 6] [.o 60 4 tSPT]) f (headOf Try.f25 2) ((Lt_syn 2).mk' x) : Option (ResT [.o 60 4 tSPT]))
theorem M_syn_eq (f : Nat) (ts : List (SPT)) (live : List (SId)) (tables : List (Int)) : M_syn (f + 1) (ts, live, tables) =
    L_syn_0 f (live, tables, [], ts, (↑ts.length : Int), 0) := by kernel_rfl
theorem L_syn_0_eq (f : Nat) (live : List (SId)) (tables : List (Int)) (out : List (SPT)) (x13 : List (SPT)) (x14 : Int) (x15 : Int) : L_syn_0 (f + 1) (live, tables, out, x13, x14, x15) =
    bif decide (x15 < x14) then bif decide (0 ≤ x15) && decide (x15 < (↑x13.length : Int)) then bif len40n tables then bif !memD (x13.getD x15.toNat (0, 0, 0, [])).1 tables then L_syn_0 f (live, tables, out, x13, x14, IntKind.i64.wrap (x15 + 1)) else L_syn_2 f (live, tables, out, ((x13.getD x15.toNat (0, 0, 0, [])).1, (x13.getD x15.toNat (0, 0, 0, [])).2.1, (x13.getD x15.toNat (0, 0, 0, [])).2.2.1, (x13.getD x15.toNat (0, 0, 0, [])).2.2.2), [], x13, x14, x15, (x13.getD x15.toNat (0, 0, 0, [])).2.2.2, (↑(List.length (x13.getD x15.toNat (0, 0, 0, [])).2.2.2) : Int), 0) else none else none else some out := by kernel_rfl
theorem L_syn_2_eq (f : Nat) (live : List (SId)) (tables : List (Int)) (out : List (SPT)) (t : SPT) (kept : List (SMp)) (x13 : List (SPT)) (x14 : Int) (x15 : Int) (x25 : List (SMp)) (x26 : Int) (x27 : Int) : L_syn_2 (f + 1) (live, tables, out, t, kept, x13, x14, x15, x25, x26, x27) =
    bif decide (x27 < x26) then bif decide (0 ≤ x27) && decide (x27 < (↑x25.length : Int)) then bif len40n live then bif memD (x25.getD x27.toNat (0, 0, 0, 0, 0, 0)).2.2.2 live then bif decide ((kept.length + [x25.getD x27.toNat (0, 0, 0, 0, 0, 0)].length) * 48 ≤ 140737488355328) then L_syn_2 f (live, tables, out, t, kept ++ [x25.getD x27.toNat (0, 0, 0, 0, 0, 0)], x13, x14, x15, x25, x26, IntKind.i64.wrap (x27 + 1)) else none else L_syn_2 f (live, tables, out, t, kept, x13, x14, x15, x25, x26, IntKind.i64.wrap (x27 + 1)) else none else none else bif decide ((↑kept.length : Int) > 0) then bif decide ((out.length + [(t.1, t.2.1, t.2.2.1, kept)].length) * 48 ≤ 140737488355328) then L_syn_0 f (live, tables, out ++ [(t.1, t.2.1, t.2.2.1, kept)], x13, x14, IntKind.i64.wrap (x15 + 1)) else none else L_syn_0 f (live, tables, out, x13, x14, IntKind.i64.wrap (x15 + 1)) := by kernel_rfl
noncomputable def F_syn_2 (K_0 : ((List (SId)) × (List (Int)) × (List (SPT)) × (List (SPT)) × Int × Nat) → (List (SPT))) : List (SMp) → ((List (SId)) × (List (Int)) × (List (SPT)) × SPT × (List (SMp)) × (List (SPT)) × Int × Nat × (List (SMp)) × Int × Nat) → (List (SPT))
  | [], (live, tables, out, t, kept, x13, x14, x15, x25, x26, x27) => bif decide ((↑kept.length : Int) > 0) then K_0 (live, tables, out ++ [(t.1, t.2.1, t.2.2.1, kept)], x13, x14, x15 + 1) else K_0 (live, tables, out, x13, x14, x15 + 1)
  | uu :: rest, (live, tables, out, t, kept, x13, x14, x15, x25, x26, x27) => bif memD uu.2.2.2 live then F_syn_2 K_0 rest (live, tables, out, t, kept ++ [uu], x13, x14, x15, x25, x26, x27 + 1) else F_syn_2 K_0 rest (live, tables, out, t, kept, x13, x14, x15, x25, x26, x27 + 1)
noncomputable def P_syn_2 (KP_0 : ((List (SId)) × (List (Int)) × (List (SPT)) × (List (SPT)) × Int × Nat) → Bool) : List (SMp) → ((List (SId)) × (List (Int)) × (List (SPT)) × SPT × (List (SMp)) × (List (SPT)) × Int × Nat × (List (SMp)) × Int × Nat) → Bool
  | [], (live, tables, out, t, kept, x13, x14, x15, x25, x26, x27) => bif decide ((↑kept.length : Int) > 0) then decide ((out.length + [(t.1, t.2.1, t.2.2.1, kept)].length) * 48 ≤ 140737488355328) && KP_0 (live, tables, out ++ [(t.1, t.2.1, t.2.2.1, kept)], x13, x14, x15 + 1) else KP_0 (live, tables, out, x13, x14, x15 + 1)
  | uu :: rest, (live, tables, out, t, kept, x13, x14, x15, x25, x26, x27) => len40n live && bif memD uu.2.2.2 live then decide ((kept.length + [uu].length) * 48 ≤ 140737488355328) && P_syn_2 KP_0 rest (live, tables, out, t, kept ++ [uu], x13, x14, x15, x25, x26, x27 + 1) else P_syn_2 KP_0 rest (live, tables, out, t, kept, x13, x14, x15, x25, x26, x27 + 1)
theorem A_syn_2 {K_0 : ((List (SId)) × (List (Int)) × (List (SPT)) × (List (SPT)) × Int × Nat) → (List (SPT))} {KP_0 : ((List (SId)) × (List (Int)) × (List (SPT)) × (List (SPT)) × Int × Nat) → Bool} {rest_0 : List (SPT)} (hK_0 : ∀ (live : List (SId)) (tables : List (Int)) (out : List (SPT)) (x13 : List (SPT)) (x14 : Int) (x15 : Nat) (hd : x13.drop x15 = rest_0) (hn : x14 = ((x13.length : Nat) : Int)) (hl : x13.length ≤ 1099511627776), Rns (fun f => L_syn_0 f (live, tables, out, x13, x14, ((x15 : Nat) : Int))) (KP_0 (live, tables, out, x13, x14, x15)) (K_0 (live, tables, out, x13, x14, x15))) : ∀ (rest : List (SMp)) (live : List (SId)) (tables : List (Int)) (out : List (SPT)) (t : SPT) (kept : List (SMp)) (x13 : List (SPT)) (x14 : Int) (x15 : Nat) (x25 : List (SMp)) (x26 : Int) (x27 : Nat) (hd : x25.drop x27 = rest) (hn : x26 = ((x25.length : Nat) : Int)) (hl : x25.length ≤ 1099511627776) (hd_0 : x13.drop (x15 + 1) = rest_0) (hn_0 : x14 = ((x13.length : Nat) : Int)) (hl_0 : x13.length ≤ 1099511627776) (ht_0 : x15 < x13.length), Rns (fun f => L_syn_2 f (live, tables, out, t, kept, x13, x14, ((x15 : Nat) : Int), x25, x26, ((x27 : Nat) : Int))) (P_syn_2 KP_0 rest (live, tables, out, t, kept, x13, x14, x15, x25, x26, x27)) (F_syn_2 K_0 rest (live, tables, out, t, kept, x13, x14, x15, x25, x26, x27))
  | [], live, tables, out, t, kept, x13, x14, x15, x25, x26, x27, hd, hn, hl, hd_0, hn_0, hl_0, ht_0 => ev_step (T := fun f => bif decide ((↑kept.length : Int) > 0) then bif decide ((out.length + [(t.1, t.2.1, t.2.2.1, kept)].length) * 48 ≤ 140737488355328) then L_syn_0 f (live, tables, out ++ [(t.1, t.2.1, t.2.2.1, kept)], x13, x14, (↑(x15 + 1) : Int)) else none else L_syn_0 f (live, tables, out, x13, x14, (↑(x15 + 1) : Int))) (fun f => (L_syn_2_eq f _ _ _ _ _ _ _ _ _ _ _).trans (by simp only [ge_decn hn (drop_ge hd), ge0, Bool.and_self, Bool.true_and, cond_true, cond_false, List.length_set, wrap_succ ht_0 hl_0, lt_dec ht_0, getD_set ht_0, lt_decn hn_0 ht_0] <;> rfl)) (ev_bif (ev_chk (hK_0 _ _ _ _ _ _ (by first | exact hd_0 | exact drop_setS hd_0 | exact drop_setS (drop_setS hd_0)) (by first | exact hn_0 | simpa using hn_0) (by first | exact hl_0 | simpa using hl_0))) (hK_0 _ _ _ _ _ _ (by first | exact hd_0 | exact drop_setS hd_0 | exact drop_setS (drop_setS hd_0)) (by first | exact hn_0 | simpa using hn_0) (by first | exact hl_0 | simpa using hl_0)))
  | uu :: rest, live, tables, out, t, kept, x13, x14, x15, x25, x26, x27, hd, hn, hl, hd_0, hn_0, hl_0, ht_0 => ev_step (T := fun f => bif len40n live then bif memD uu.2.2.2 live then bif decide ((kept.length + [uu].length) * 48 ≤ 140737488355328) then L_syn_2 f (live, tables, out, t, kept ++ [uu], x13, x14, (↑x15 : Int), x25, x26, (↑(x27 + 1) : Int)) else none else L_syn_2 f (live, tables, out, t, kept, x13, x14, (↑x15 : Int), x25, x26, (↑(x27 + 1) : Int)) else none) (fun f => (L_syn_2_eq f _ _ _ _ _ _ _ _ _ _ _).trans (by simp only [lt_decn hn (drop_lt hd), lt_dec (drop_lt hd), drop_get hd, wrap_succ (drop_lt hd) hl, getD_set (drop_lt hd), ge0, Bool.and_self, Bool.true_and, cond_true, cond_false, List.length_set, wrap_succ ht_0 hl_0, lt_dec ht_0, getD_set ht_0, lt_decn hn_0 ht_0] <;> rfl)) (ev_chk (ev_bif (ev_chk (A_syn_2 hK_0 rest _ _ _ _ _ _ _ _ _ _ _ (by first | exact drop_succ hd | exact drop_set hd | exact drop_setS (drop_set hd)) (by first | exact hn | simpa using hn) (by first | exact hl | simpa using hl) (by first | exact hd_0 | exact drop_setS hd_0 | exact drop_setS (drop_setS hd_0)) (by first | exact hn_0 | simpa using hn_0) (by first | exact hl_0 | simpa using hl_0) (by first | exact ht_0 | simpa using ht_0))) (A_syn_2 hK_0 rest _ _ _ _ _ _ _ _ _ _ _ (by first | exact drop_succ hd | exact drop_set hd | exact drop_setS (drop_set hd)) (by first | exact hn | simpa using hn) (by first | exact hl | simpa using hl) (by first | exact hd_0 | exact drop_setS hd_0 | exact drop_setS (drop_setS hd_0)) (by first | exact hn_0 | simpa using hn_0) (by first | exact hl_0 | simpa using hl_0) (by first | exact ht_0 | simpa using ht_0))))
noncomputable def F_syn_0 : List (SPT) → ((List (SId)) × (List (Int)) × (List (SPT)) × (List (SPT)) × Int × Nat) → (List (SPT))
  | [], (live, tables, out, x13, x14, x15) => out
  | uu :: rest, (live, tables, out, x13, x14, x15) => bif !memD uu.1 tables then F_syn_0 rest (live, tables, out, x13, x14, x15 + 1) else F_syn_2 (F_syn_0 rest) uu.2.2.2 (live, tables, out, (uu.1, uu.2.1, uu.2.2.1, uu.2.2.2), [], x13, x14, x15, uu.2.2.2, (↑(List.length uu.2.2.2) : Int), 0)
noncomputable def P_syn_0 : List (SPT) → ((List (SId)) × (List (Int)) × (List (SPT)) × (List (SPT)) × Int × Nat) → Bool
  | [], (live, tables, out, x13, x14, x15) => true
  | uu :: rest, (live, tables, out, x13, x14, x15) => len40n tables && bif !memD uu.1 tables then P_syn_0 rest (live, tables, out, x13, x14, x15 + 1) else decide (List.length uu.2.2.2 ≤ 1099511627776) && P_syn_2 (P_syn_0 rest) uu.2.2.2 (live, tables, out, (uu.1, uu.2.1, uu.2.2.1, uu.2.2.2), [], x13, x14, x15, uu.2.2.2, (↑(List.length uu.2.2.2) : Int), 0)
theorem A_syn_0 : ∀ (rest : List (SPT)) (live : List (SId)) (tables : List (Int)) (out : List (SPT)) (x13 : List (SPT)) (x14 : Int) (x15 : Nat) (hd : x13.drop x15 = rest) (hn : x14 = ((x13.length : Nat) : Int)) (hl : x13.length ≤ 1099511627776), Rns (fun f => L_syn_0 f (live, tables, out, x13, x14, ((x15 : Nat) : Int))) (P_syn_0 rest (live, tables, out, x13, x14, x15)) (F_syn_0 rest (live, tables, out, x13, x14, x15))
  | [], live, tables, out, x13, x14, x15, hd, hn, hl => ev_step (T := fun f => some out) (fun f => (L_syn_0_eq f _ _ _ _ _ _).trans (by simp only [ge_decn hn (drop_ge hd), ge0, Bool.and_self, Bool.true_and, cond_true, cond_false, List.length_set] <;> rfl)) ev_some
  | uu :: rest, live, tables, out, x13, x14, x15, hd, hn, hl => ev_step (T := fun f => bif len40n tables then bif !memD uu.1 tables then L_syn_0 f (live, tables, out, x13, x14, (↑(x15 + 1) : Int)) else L_syn_2 f (live, tables, out, (uu.1, uu.2.1, uu.2.2.1, uu.2.2.2), [], x13, x14, (↑x15 : Int), uu.2.2.2, (↑(List.length uu.2.2.2) : Int), 0) else none) (fun f => (L_syn_0_eq f _ _ _ _ _ _).trans (by simp only [lt_decn hn (drop_lt hd), lt_dec (drop_lt hd), drop_get hd, wrap_succ (drop_lt hd) hl, getD_set (drop_lt hd), ge0, Bool.and_self, Bool.true_and, cond_true, cond_false, List.length_set] <;> rfl)) (ev_chk (ev_bif (A_syn_0 rest _ _ _ _ _ _ (by first | exact drop_succ hd | exact drop_set hd | exact drop_setS (drop_set hd)) (by first | exact hn | simpa using hn) (by first | exact hl | simpa using hl)) (ev_and fun hh => A_syn_2 (A_syn_0 rest) _ _ _ _ _ _ _ _ _ _ _ _ rfl (by first | rfl | simp) (of_decide_eq_true hh) (by first | exact drop_succ hd | exact drop_set hd | exact drop_setS (drop_set hd)) (by first | exact hn | simpa using hn) (by first | exact hl | simpa using hl) (by first | exact drop_lt hd | simpa using drop_lt hd))))
noncomputable def F_syn : ((List (SPT)) × (List (SId)) × (List (Int))) → (List (SPT))
  | (ts, live, tables) => F_syn_0 ts (live, tables, [], ts, (↑ts.length : Int), 0)
noncomputable def P_syn : ((List (SPT)) × (List (SId)) × (List (Int))) → Bool
  | (ts, live, tables) => decide (ts.length ≤ 1099511627776) && P_syn_0 ts (live, tables, [], ts, (↑ts.length : Int), 0)
theorem syn_auto : ∀ a : (List (SPT)) × (List (SId)) × (List (Int)), Rns (fun f => M_syn f a) (P_syn a) (F_syn a)
  | (ts, live, tables) => ev_step (fun f => M_syn_eq f _ _ _) (ev_and fun hh => A_syn_0 _ _ _ _ _ _ _ rfl (by first | rfl | simp) (of_decide_eq_true hh))
theorem syn_2 {live : List SId} (hlive : len40n live = true) (K : (List SId × List Int × List SPT × List SPT × Int × Nat) → List SPT) (KP : (List SId × List Int × List SPT × List SPT × Int × Nat) → Bool) (tables : List Int) (out : List SPT) (t : SPT) (x13 : List SPT) (x14 : Int) (x15 : Nat) (x25 : List SMp) (x26 : Int) (ho : out.length ≤ 68719476736) : ∀ (r kept : List SMp) (x27 : Nat), kept.length + r.length ≤ 68719476736 →
    F_syn_2 K r (live, tables, out, t, kept, x13, x14, x15, x25, x26, x27) = K (live, tables, putT out t (kept ++ r.filter (keepM live)), x13, x14, x15 + 1) ∧ (KP (live, tables, putT out t (kept ++ r.filter (keepM live)), x13, x14, x15 + 1) = true → P_syn_2 KP r (live, tables, out, t, kept, x13, x14, x15, x25, x26, x27) = true)
  | [], kept, x27, h => by
    simp only [F_syn_2, P_syn_2, List.filter_nil, List.append_nil, putT]
    cases decide (((kept.length : Nat) : Int) > 0)
    · exact ⟨rfl, fun h => h⟩
    · refine ⟨rfl, fun h => ?_⟩
      have h : KP (live, tables, out ++ [(t.1, t.2.1, t.2.2.1, kept)], x13, x14, x15 + 1) = true := h
      simp only [cond_true, h, Bool.and_true, decide_eq_true_eq, List.length_singleton]; omega
  | u :: r, kept, x27, h => by
    simp only [List.length_cons] at h
    obtain ⟨i1, i2⟩ := syn_2 hlive K KP tables out t x13 x14 x15 x25 x26 ho r (kept ++ [u]) (x27 + 1) (by simp; omega)
    obtain ⟨j1, j2⟩ := syn_2 hlive K KP tables out t x13 x14 x15 x25 x26 ho r kept (x27 + 1) (by omega)
    have e : decide ((kept.length + [u].length) * 48 ≤ 140737488355328) = true := decide_eq_true (by simp only [List.length_singleton]; omega)
    simp only [F_syn_2, P_syn_2, hlive, e, Bool.true_and, List.filter_cons]
    cases hk : memD u.2.2.2 live
    · rw [show keepM live u = false from hk]
      exact ⟨j1, j2⟩
    · rw [show keepM live u = true from hk]
      simp only [List.append_assoc, List.singleton_append] at i1 i2
      exact ⟨i1, i2⟩
theorem syn_0 {live : List SId} {tables : List Int} (h1 : len40n live = true) (h2 : len40n tables = true) (x13 : List SPT) (x14 : Int) : ∀ (r out : List SPT) (k : Nat), (∀ t ∈ r, t.2.2.2.length ≤ 68719476736) → out.length + r.length ≤ 68719476736 → F_syn_0 r (live, tables, out, x13, x14, k) = synL live tables out r ∧ P_syn_0 r (live, tables, out, x13, x14, k) = true
  | [], out, k, h, hl => ⟨rfl, rfl⟩
  | u :: r, out, k, h, hl => by
    simp only [List.length_cons] at hl
    have hu := h u (List.mem_cons_self ..)
    have hp := putT_len out u (u.2.2.2.filter (keepM live))
    obtain ⟨i1, i2⟩ := syn_0 h1 h2 x13 x14 r (putT out u (u.2.2.2.filter (keepM live))) (k + 1) (fun e he => h e (List.mem_cons_of_mem _ he)) (by omega)
    obtain ⟨j1, j2⟩ := syn_0 h1 h2 x13 x14 r out (k + 1) (fun e he => h e (List.mem_cons_of_mem _ he)) (by omega)
    obtain ⟨k1, k2⟩ := syn_2 h1 (F_syn_0 r) (P_syn_0 r) tables out (u.1, u.2.1, u.2.2.1, u.2.2.2) x13 x14 k u.2.2.2 ((List.length u.2.2.2 : Nat) : Int) (by omega) u.2.2.2 [] 0 (by simp; omega)
    simp only [F_syn_0, P_syn_0, h2, k1, j1, j2, Bool.true_and, synL, decide_eq_true (show List.length u.2.2.2 ≤ 1099511627776 by omega)]
    cases memD u.1 tables
    · exact ⟨rfl, rfl⟩
    · exact ⟨i1, k2 i2⟩
theorem syn_both : ∀ a : List SPT × List SId × List Int, synPre a = true → P_syn a = true ∧ F_syn a = synS a := by
  rintro ⟨ts, live, tables⟩ h
  obtain ⟨h0, h12⟩ := Bool.and_eq_true_iff.1 h
  obtain ⟨h1, h2⟩ := Bool.and_eq_true_iff.1 h12
  have hl := okT_len h0
  obtain ⟨i1, i2⟩ := syn_0 h1 h2 ts ((ts.length : Nat) : Int) ts [] 0 (fun t ht => okT_mem h0 ht) (by simpa using hl)
  simp only [P_syn, F_syn, i1, i2, Bool.and_true]
  exact ⟨decide_eq_true (by have : ts.length ≤ 68719476736 := hl; omega), rfl⟩
theorem syn_P : ∀ a : List SPT × List SId × List Int, synPre a = true → P_syn a = true := fun a h => (syn_both a h).1
theorem syn_F : ∀ a : List SPT × List SId × List Int, synPre a = true → F_syn a = synS a := fun a h => (syn_both a h).2
theorem syn_run : ∀ a, (synPre : (List (SPT)) × (List (SId)) × (List (Int)) → Bool) a = true → ∃ f, M_syn f a = some ((synS : (List (SPT)) × (List (SId)) × (List (Int)) → (List (SPT))) a) := fun a h => by have h1 := syn_auto a (syn_P a h); rw [syn_F a h] at h1; exact h1
noncomputable def E_syn : Ent := ⟨25, [.rd tSPT, .rd tSId, .rd [.int .i64]], [.o 60 4 tSPT], fun a => (synPre : (List (SPT)) × (List (SId)) × (List (Int)) → Bool) a, fun a => (synS : (List (SPT)) × (List (SId)) × (List (Int)) → (List (SPT))) a⟩
theorem E_syn_ok : E_syn.Ok Try.prog := fun a hp vs hv => (syn_run a hp).elim fun f h => fnX_ok (C := C_syn) (Lt := Lt_syn) (fn := Try.f25) (rs := [.tmp 6]) [.rd tSPT, .rd tSId, .rd [.int .i64]] [.o 60 4 tSPT] mixed es_syn Try.func25 rfl rfl rfl (by kernel_rfl) (by kernel_rfl) f h vs hv
end Go.AL
/-
  Layer 16: VspaceSync: what it computes. By an AI agent.
-/
namespace Go.AL
open Go.Proofs
set_option linter.unusedVariables false
set_option linter.unusedSimpArgs false
/-! ### Sync in closed form -/
def kepT (live : List SId) (t : SPT) : List SMp := t.2.2.2.filter (keepM live)
def synF (live : List SId) (tables : List Int) : List SPT → List SPT
  | [] => []
  | t :: r => bif memD t.1 tables then putT [] t (kepT live t) ++ synF live tables r else synF live tables r
theorem putT_app (out : List SPT) (t : SPT) (k : List SMp) : putT out t k = out ++ putT [] t k := by
  unfold putT; cases decide (((k.length : Nat) : Int) > 0) <;> simp
theorem synL_app (live : List SId) (tables : List Int) : ∀ (r out : List SPT), synL live tables out r = out ++ synF live tables r
  | [], out => by simp [synL, synF]
  | t :: r, out => by
    simp only [synL, synF]
    cases memD t.1 tables
    · simp only [Bool.not_false, cond_true, cond_false]; exact synL_app live tables r out
    · simp only [Bool.not_true, cond_true, cond_false]
      rw [synL_app live tables r, putT_app, List.append_assoc]; rfl
theorem synS_F (a : List SPT × List SId × List Int) : synS a = synF a.2.1 a.2.2 a.1 := by
  unfold synS; rw [synL_app]; rfl
theorem putT_cases (t : SPT) (k : List SMp) : (k = [] ∧ putT [] t k = []) ∨ (k ≠ [] ∧ putT [] t k = [(t.1, t.2.1, t.2.2.1, k)]) := by
  cases k with
  | nil => exact .inl ⟨rfl, rfl⟩
  | cons m k => exact .inr ⟨by simp, by unfold putT; rw [decide_eq_true (by simp only [List.length_cons]; omega)]; rfl⟩
theorem synF_mem (live : List SId) (tables : List Int) : ∀ (r : List SPT) (u : SPT), u ∈ synF live tables r → ∃ t ∈ r, memD t.1 tables = true ∧ kepT live t ≠ [] ∧ u = (t.1, t.2.1, t.2.2.1, kepT live t)
  | [], u, h => by cases h
  | t :: r, u, h => by
    rw [synF] at h
    cases hm : memD t.1 tables
    · rw [hm] at h
      obtain ⟨v, h1, h2⟩ := synF_mem live tables r u h
      exact ⟨v, List.mem_cons_of_mem _ h1, h2⟩
    · rw [hm, cond_true] at h
      rcases List.mem_append.1 h with h | h
      · rcases putT_cases t (kepT live t) with ⟨_, e⟩ | ⟨hk, e⟩
        · rw [e] at h; cases h
        · rw [e] at h
          exact ⟨t, List.mem_cons_self .., hm, hk, List.mem_singleton.1 h⟩
      · obtain ⟨v, h1, h2⟩ := synF_mem live tables r u h
        exact ⟨v, List.mem_cons_of_mem _ h1, h2⟩
theorem synF_vts {live : List SId} {tables : List Int} {ts : List SPT} (h : Vts ts) : Vts (synF live tables ts) := by
  constructor
  · intro u hu
    obtain ⟨t, ht, -, hk, rfl⟩ := synF_mem live tables ts u hu
    have v := h.tab t ht
    exact ⟨v.geo, v.lev, v.base, hk, fun m hm => v.ok m (List.mem_filter.1 hm).1, v.srt.filter _⟩
  · obtain ⟨_, hs⟩ := h
    induction ts with
    | nil => exact .nil
    | cons t r ih =>
      rw [List.pairwise_cons] at hs
      have i := ih (fun t ht => by rename_i x; exact x t (List.mem_cons_of_mem _ ht)) hs.2
      rw [synF]
      cases memD t.1 tables
      · exact i
      · rw [cond_true]
        rcases putT_cases t (kepT live t) with ⟨_, e⟩ | ⟨hk, e⟩
        · rw [e]; exact i
        · rw [e]
          refine List.pairwise_cons.2 ⟨fun b hb => ?_, i⟩
          obtain ⟨v, hv, -, -, rfl⟩ := synF_mem live tables r b hb
          exact hs.1 v hv
/-! ### The loops -/
theorem fm_mem {l : List SMp} (hs : l.Pairwise (fun a b => a.1 < b.1)) {m : SMp} (hm : m ∈ l) : ∃ A B, l = A ++ m :: B ∧ fmS l m.1 = ((A.length : Nat) : Int) := by
  obtain ⟨A, B, rfl⟩ := List.append_of_mem hm
  refine ⟨A, B, rfl, ?_⟩
  unfold fmS
  rw [findI_hit (p := fun x : SMp => decide (x.1 = m.1)) (x := m) (decide_eq_true rfl) (fun y hy => decide_eq_false (by have := (List.pairwise_append.1 hs).2.2 y hy m (List.mem_cons_self ..); omega)), Int.zero_add]
theorem ft_mem {ts : List SPT} (hs : ts.Pairwise (fun a b => a.1 < b.1)) {t : SPT} (ht : t ∈ ts) : ∃ A B, ts = A ++ t :: B ∧ ftS ts t.1 = ((A.length : Nat) : Int) := by
  obtain ⟨A, B, rfl⟩ := List.append_of_mem ht
  exact ⟨A, B, rfl, ftS_hit rfl fun y hy => (List.pairwise_append.1 hs).2.2 y hy t (List.mem_cons_self ..)⟩
theorem w1 {n : Nat} (h : n ≤ 1000000000) : IntKind.i64.wrap (((n : Nat) : Int) + 1) = ((n + 1 : Nat) : Int) := by rw [i64_id (by omega) (by omega)]; rfl
end Go.AL
/-
  Layer 16: VspaceCacheExact: what it computes. By an AI agent.
-/
namespace Go.AL
open Go.Proofs
set_option linter.unusedVariables false
set_option linter.unusedSimpArgs false
end Go.AL
/-
  Layer 16: plain laws of caches of valid walks. By an AI agent.
-/
namespace Go.AL
open Go.Proofs
set_option linter.unusedVariables false
set_option linter.unusedSimpArgs false
def vcTop : SCp := (3, 4096, 12, 7, 32, 1, false)
def Stp (ts : List SPT) (w lv b i : Int) (m : SMp) : Prop := ∃ T ∈ ts, T.1 = b ∧ T.2.1 = w ∧ T.2.2.1 = lv ∧ m ∈ T.2.2.2 ∧ m.1 = i
theorem wkR_hit {ts : List SPT} (hv : Vts ts) {w addr lv b : Int} {m : SMp} (h : Stp ts w lv b (ixS (w, lv, addr)) m) : maS ts w addr lv b = m ∧ ∀ k, wkR ts w addr lv b k = k := by
  obtain ⟨T, hT, rfl, h2, h3, h4, h5⟩ := h
  obtain ⟨A, B, e, ef⟩ := ft_mem hv.srt hT
  obtain ⟨C, D, e2, ef2⟩ := fm_mem (hv.tab T hT).srt h4
  have e3 : taS ts T.1 = T := by
    unfold taS; rw [ef, e]; exact getD_mid ..
  have e4 : faS ts w addr lv T.1 = ((C.length : Nat) : Int) := by unfold faS; rw [e3, ← h5]; exact ef2
  constructor
  · unfold maS; rw [e3, e4, e2]; exact getD_mid ..
  · intro k
    unfold wkR
    rw [ef, e3, e4, h2, h3, decide_eq_false (show ¬ ((A.length : Nat) : Int) < 0 by omega), decide_eq_false (show ¬ ((C.length : Nat) : Int) < 0 by omega)]
    simp
theorem findI_at {α : Type} {p : α → Bool} {z : α} {l : List α} (h : ¬ findI p l 0 < 0) : p (l.getD (findI p l 0).toNat z) = true := by
  obtain ⟨j, x, e, hx, hp, _⟩ := findI_some (p := p) (l := l) (k := 0) (by omega) (by omega)
  rw [e, Int.zero_add, Int.toNat_natCast, List.getD_eq_getElem?_getD, hx]; exact hp
theorem wkR_inv {ts : List SPT} {w addr lv b : Int} {k : STr × Int} {x : STr} (h : wkR ts w addr lv b k = (x, 0)) : Stp ts w lv b (ixS (w, lv, addr)) (maS ts w addr lv b) ∧ k = (x, 0) := by
  have hz : z13 ≠ (x, 0) := fun h => by
    have : z13.2 = 0 := by rw [h]
    exact absurd this (by decide)
  unfold wkR at h
  cases h1 : decide (ftS ts b < 0)
  case true => rw [h1] at h; exact absurd h hz
  cases h2 : (taS ts b).2.1 != w
  case true => rw [h1, h2] at h; exact absurd h hz
  cases h3 : (taS ts b).2.2.1 != lv
  case true => rw [h1, h2, h3] at h; exact absurd h hz
  cases h4 : decide (faS ts w addr lv b < 0)
  case true => rw [h1, h2, h3, h4] at h; exact absurd h hz
  rw [h1, h2, h3, h4] at h
  have hf : ¬ ftS ts b < 0 := of_decide_eq_false h1
  have hg : ¬ faS ts w addr lv b < 0 := of_decide_eq_false h4
  refine ⟨⟨taS ts b, ft_getD hf, ?_, by simpa using h2, by simpa using h3, ?_, ?_⟩, h⟩
  · have := findI_at (p := fun t : SPT => decide (t.1 = b)) (z := zPT) (l := ts) (show ¬ findI (fun t : SPT => decide (t.1 = b)) ts 0 < 0 from hf)
    exact of_decide_eq_true this
  · have hl := fmS_lt (taS ts b).2.2.2 (ixS (w, lv, addr))
    have hk : (faS ts w addr lv b).toNat < (taS ts b).2.2.2.length := by have : faS ts w addr lv b < (((taS ts b).2.2.2.length : Nat) : Int) := hl; omega
    unfold maS
    rw [List.getD_eq_getElem?_getD, List.getElem?_eq_getElem hk]
    exact List.getElem_mem hk
  · have := findI_at (p := fun m : SMp => decide (m.1 = ixS (w, lv, addr))) (z := (0, 0, 0, 0, 0, 0)) (l := (taS ts b).2.2.2) (show ¬ findI (fun m : SMp => decide (m.1 = ixS (w, lv, addr))) (taS ts b).2.2.2 0 < 0 from hg)
    exact of_decide_eq_true this
theorem vcTop_ok : vcapB vcTop = true := by decide +kernel
def Pth (ts : List SPT) (a : Int) (m1 m0 : SMp) : Prop := Stp ts 32 1 4096 (ixS (32, 1, a)) m1 ∧ Stp ts 32 0 m1.2.1 (ixS (32, 0, a)) m0
def trO (a : Int) (m1 m0 : SMp) : STr := (4096, a / 4096, m0.2.1, m0.2.2.1, [m1.2.2.2, m0.2.2.2], [4096, m1.2.1])
theorem wlk_eq {ts : List SPT} (hv : Vts ts) (a : Int) : wlkS (ts, vcTop, a) = bif !vaS (32, a) then ((0, 0, 0, 0, [], []), 6) else wkS ts 32 a 2 1 4096 (4096, a / 4096, 0, 0, [], []) := by
  unfold wlkS
  have h1 := (tabsB_iff ts).2 hv
  simp only [h1, vcTop_ok, Bool.not_true, cond_false]
  rfl
theorem wlk_hit {ts : List SPT} (hv : Vts ts) {a : Int} (ha : vaS (32, a) = true) {m1 m0 : SMp} (h : Pth ts a m1 m0) : wlkS (ts, vcTop, a) = (trO a m1 m0, 0) := by
  obtain ⟨e1, e2⟩ := wkR_hit hv h.1
  have h2 := h.2
  obtain ⟨e3, e4⟩ := wkR_hit hv h2
  rw [wlk_eq hv, ha]
  show wkR ts 32 a 1 4096 (wkR ts 32 a 0 (maS ts 32 a 1 4096).2.1 _) = _
  have e5 : maS ts 32 a (1 - 1) m1.2.1 = m0 := e3
  rw [e2, e1, e4, wkS, e5]; rfl
theorem wlk_inv {ts : List SPT} (hv : Vts ts) {a : Int} {x : STr} (h : wlkS (ts, vcTop, a) = (x, 0)) : vaS (32, a) = true ∧ ∃ m1 m0, Pth ts a m1 m0 ∧ x = trO a m1 m0 := by
  rw [wlk_eq hv] at h
  cases ha : vaS (32, a)
  · rw [ha] at h
    have h : (((0, 0, 0, 0, [], []) : STr), (6 : Int)) = (x, 0) := h
    exact absurd (congrArg Prod.snd h) (by show ¬ (6 : Int) = 0; omega)
  · rw [ha] at h
    have h : wkR ts 32 a 1 4096 (wkR ts 32 a 0 (maS ts 32 a 1 4096).2.1 _) = (x, 0) := h
    obtain ⟨s1, h⟩ := wkR_inv h
    obtain ⟨s2, h⟩ := wkR_inv h
    refine ⟨rfl, _, _, ⟨s1, s2⟩, ?_⟩
    rw [wkS] at h
    exact (congrArg Prod.fst h).symm
def Wok (ts : List SPT) (x : STr) : Prop := x.1 = 4096 ∧ wlkS (ts, vcTop, x.2.1 * 4096) = (x, 0)
theorem Wok.keep {ts r : List SPT} (hv : Vts ts) (hr : Vts r) {x : STr} (h : Wok ts x) (hs : ∀ w lv b i m, b ∈ x.2.2.2.2.2 → m.2.2.2 ∈ x.2.2.2.2.1 → Stp ts w lv b i m → Stp r w lv b i m) : Wok r x := by
  obtain ⟨h0, h⟩ := h
  obtain ⟨ha, m1, m0, hp, e⟩ := wlk_inv hv h
  have t1 : x.2.2.2.2.1 = [m1.2.2.2, m0.2.2.2] := by rw [e]; rfl
  have t2 : x.2.2.2.2.2 = [4096, m1.2.1] := by rw [e]; rfl
  refine ⟨h0, ?_⟩
  rw [wlk_hit hr ha ⟨hs _ _ _ _ _ (by rw [t2]; simp) (by rw [t1]; simp) hp.1, hs _ _ _ _ _ (by rw [t2]; simp) (by rw [t1]; simp) hp.2⟩, ← e]
theorem MapIn.stp {ts r : List SPT} {c : SCp} {m : SMp} {L R : List SPT} {A B : List SMp} (h : MapIn ts r c m L R A B) {w lv b i : Int} {m' : SMp} (hs : Stp ts w lv b i m') : Stp r w lv b i m' := by
  obtain ⟨T, hT, h1, h2, h3, h4, h5⟩ := hs
  rw [h.res]
  rcases h.was with ⟨e, -, -⟩ | ⟨e, -⟩
  · rw [e] at hT
    rcases List.mem_append.1 hT with hT | hT
    · exact ⟨T, List.mem_append_left _ hT, h1, h2, h3, h4, h5⟩
    · exact ⟨T, List.mem_append_right _ (List.mem_cons_of_mem _ hT), h1, h2, h3, h4, h5⟩
  · rw [e] at hT
    rcases List.mem_append.1 hT with hT | hT
    · exact ⟨T, List.mem_append_left _ hT, h1, h2, h3, h4, h5⟩
    · rcases List.mem_cons.1 hT with rfl | hT
      · refine ⟨_, List.mem_append_right _ (List.mem_cons_self ..), h1, h2, h3, ?_, h5⟩
        show m' ∈ A ++ m :: B
        have h4 : m' ∈ A ++ B := h4
        rcases List.mem_append.1 h4 with h4 | h4
        · exact List.mem_append_left _ h4
        · exact List.mem_append_right _ (List.mem_cons_of_mem _ h4)
      · exact ⟨T, List.mem_append_right _ (List.mem_cons_of_mem _ hT), h1, h2, h3, h4, h5⟩
theorem map_keep {ts : List SPT} (hv : Vts ts) (n p : Int) {k mask : Int} (h0 : 0 ≤ k) (h1 : k < 1024) (h2 : 0 ≤ mask) (h3 : mask < 8) (hz : (mapS (ts, tcapS n, k, mnodS p, mask)).2 = 0) :
    Vts (mapS (ts, tcapS n, k, mnodS p, mask)).1 ∧ ∀ w lv b i m, Stp ts w lv b i m → Stp (mapS (ts, tcapS n, k, mnodS p, mask)).1 w lv b i m := by
  have hi := tcap_idx n h0 h1
  rcases mapS_in hv (mnod_ok p) ⟨h2, by omega⟩ hi with (e | e) | ⟨hk, hm, r, L, R, A, B, e, hr⟩
  · rw [e] at hz; exact absurd hz (by show ¬ (5 : Int) = 0; omega)
  · rw [e] at hz; exact absurd hz (by show ¬ (12 : Int) = 0; omega)
  · rw [e]
    exact ⟨hr.vts hv (tcap_ok n).1 (in_ok n p h0 h1 h2 h3), fun w lv b i m hs => hr.stp hs⟩
theorem split_getD {α : Type} {l : List α} {z : α} : ∀ {n : Nat}, n < l.length → l = l.take n ++ l.getD n z :: l.drop (n + 1) := by
  intro n h
  rw [List.getD_eq_getElem?_getD, List.getElem?_eq_getElem h]
  have := (List.take_append_drop n l).symm
  rw [List.drop_eq_getElem_cons h] at this
  exact this
theorem unm_keep {ts : List SPT} (hv : Vts ts) (c : SCp) (k : Int) (hz : (unmS (ts, c, k)).2.2 = 0) :
    Vts (unmS (ts, c, k)).1 ∧ ∀ w lv b i m, m.2.2.2 ≠ (unmS (ts, c, k)).2.1 → Stp ts w lv b i m → Stp (unmS (ts, c, k)).1 w lv b i m := by
  have hb := (tabsB_iff ts).2 hv
  have hs : ∀ e : Int, e ≠ 0 → (unmS (ts, c, k)) = ([], (0, 0, 0), e) → False := fun e he h => by
    rw [h] at hz; exact he hz
  cases h1 : decide (ctabS (ts, c) ≠ 0)
  case true => exact absurd (by simp only [unmS, hb, h1, Bool.not_true, cond_false, cond_true]) (hs (ctabS (ts, c)) (of_decide_eq_true h1))
  cases h2 : decide (cidxS (c, k) ≠ 0)
  case true => exact absurd (by simp only [unmS, hb, h1, h2, Bool.not_true, cond_false, cond_true]) (hs (cidxS (c, k)) (of_decide_eq_true h2))
  cases h3 : decide (ftS ts c.2.1 < 0)
  case true => exact absurd (by simp only [unmS, hb, h1, h2, h3, Bool.not_true, cond_false, cond_true]) (hs 13 (by omega))
  have hf : ¬ ftS ts c.2.1 < 0 := of_decide_eq_false h3
  cases h4 : decide (fmS (Ns.maps (ts.getD (ftS ts c.2.1).toNat zPT)) k < 0)
  case true => exact absurd (by simp only [unmS, hb, h1, h2, h3, h4, Bool.not_true, cond_false, cond_true]) (hs 13 (by omega))
  have hg : ¬ fmS (Ns.maps (ts.getD (ftS ts c.2.1).toNat zPT)) k < 0 := of_decide_eq_false h4
  have e : unmS (ts, c, k) = unmE (ts.take (ftS ts c.2.1).toNat) (ts.getD (ftS ts c.2.1).toNat zPT) (ts.drop ((ftS ts c.2.1).toNat + 1)) (fmS (Ns.maps (ts.getD (ftS ts c.2.1).toNat zPT)) k).toNat := by
    simp only [unmS, hb, h1, h2, h3, h4, Bool.not_true, cond_false]
  obtain ⟨g1, g2⟩ := ft_range hf
  have es := split_getD (z := zPT) (l := ts) (n := (ftS ts c.2.1).toNat) (by omega)
  have hl := fmS_lt (Ns.maps (ts.getD (ftS ts c.2.1).toNat zPT)) k
  rw [e]
  generalize ts.take (ftS ts c.2.1).toNat = L at es
  generalize ts.drop ((ftS ts c.2.1).toNat + 1) = R at es
  generalize ts.getD (ftS ts c.2.1).toNat zPT = T at es hl hg
  have em := split_getD (z := zM) (l := Ns.maps T) (n := (fmS (Ns.maps T) k).toNat) (by omega)
  unfold unmE delAt
  generalize (Ns.maps T).take (fmS (Ns.maps T) k).toNat = A at em
  generalize (Ns.maps T).drop ((fmS (Ns.maps T) k).toNat + 1) = B at em
  generalize (Ns.maps T).getD (fmS (Ns.maps T) k).toNat zM = M at em
  have em : T.2.2.2 = A ++ M :: B := em
  subst es
  have vT := hv.tab T (by simp)
  have hsub : (L ++ R).Pairwise (fun a b => a.1 < b.1) := hv.srt.sublist (List.Sublist.append (List.Sublist.refl _) (List.sublist_cons_self _ _))
  have hok := vT.ok
  have hsr := vT.srt
  rw [em] at hok hsr
  cases h5 : decide ((A ++ B).length = 0)
  · rw [cond_false]
    have hne : A ++ B ≠ [] := fun h => of_decide_eq_false h5 (by rw [h]; rfl)
    refine ⟨⟨fun t ht => ?_, ?_⟩, fun w lv b i m hm hst => ?_⟩
    · have ht : t ∈ L ++ (T.1, T.2.1, T.2.2.1, A ++ B) :: R := ht
      rcases List.mem_append.1 ht with ht | ht
      · exact hv.tab t (List.mem_append_left _ ht)
      · rcases List.mem_cons.1 ht with rfl | ht
        · exact ⟨vT.geo, vT.lev, vT.base, hne, fun x hx => hok x (by
            rcases List.mem_append.1 hx with hx | hx
            · exact List.mem_append_left _ hx
            · exact List.mem_append_right _ (List.mem_cons_of_mem _ hx)), hsr.sublist (List.Sublist.append (List.Sublist.refl _) (List.sublist_cons_self _ _))⟩
        · exact hv.tab t (List.mem_append_right _ (List.mem_cons_of_mem _ ht))
    · obtain ⟨a1, a2, a3⟩ := List.pairwise_append.1 hv.srt
      rw [List.pairwise_cons] at a2
      show (L ++ (T.1, T.2.1, T.2.2.1, A ++ B) :: R).Pairwise (fun a b => a.1 < b.1)
      refine pair_in (f := fun t : SPT => t.1) hsub (fun x hx => a3 x hx T (List.mem_cons_self ..)) (fun x hx => a2.1 x hx)
    · have hm : m.2.2.2 ≠ mId M := hm
      obtain ⟨U, hU, k1, k2, k3, k4, k5⟩ := hst
      show Stp (L ++ (T.1, T.2.1, T.2.2.1, A ++ B) :: R) w lv b i m
      rcases List.mem_append.1 hU with hU | hU
      · exact ⟨U, List.mem_append_left _ hU, k1, k2, k3, k4, k5⟩
      · rcases List.mem_cons.1 hU with rfl | hU
        · refine ⟨(U.1, U.2.1, U.2.2.1, A ++ B), List.mem_append_right _ (List.mem_cons_self ..), k1, k2, k3, ?_, k5⟩
          rw [em] at k4
          show m ∈ A ++ B
          rcases List.mem_append.1 k4 with k4 | k4
          · exact List.mem_append_left _ k4
          · rcases List.mem_cons.1 k4 with rfl | k4
            · exact absurd rfl hm
            · exact List.mem_append_right _ k4
        · exact ⟨U, List.mem_append_right _ (List.mem_cons_of_mem _ hU), k1, k2, k3, k4, k5⟩
  · rw [cond_true]
    have hne : A ++ B = [] := List.eq_nil_of_length_eq_zero (of_decide_eq_true h5)
    refine ⟨⟨fun t ht => ?_, hsub⟩, fun w lv b i m hm hst => ?_⟩
    · have ht : t ∈ L ++ R := ht
      rcases List.mem_append.1 ht with ht | ht
      · exact hv.tab t (List.mem_append_left _ ht)
      · exact hv.tab t (List.mem_append_right _ (List.mem_cons_of_mem _ ht))
    · have hm : m.2.2.2 ≠ mId M := hm
      obtain ⟨U, hU, k1, k2, k3, k4, k5⟩ := hst
      show Stp (L ++ R) w lv b i m
      rcases List.mem_append.1 hU with hU | hU
      · exact ⟨U, List.mem_append_left _ hU, k1, k2, k3, k4, k5⟩
      · rcases List.mem_cons.1 hU with rfl | hU
        · exfalso
          obtain ⟨hA, hB⟩ := List.append_eq_nil_iff.1 hne
          rw [em, hA, hB] at k4
          exact hm (by rw [List.mem_singleton.1 k4])
        · exact ⟨U, List.mem_append_right _ hU, k1, k2, k3, k4, k5⟩
theorem syn_keep {ts : List SPT} {live : List SId} {tables : List Int} : ∀ {w lv b i : Int} {m : SMp}, memD b tables = true → memD m.2.2.2 live = true → Stp ts w lv b i m → Stp (synF live tables ts) w lv b i m := by
  intro w lv b i m hb hm ⟨T, hT, k1, k2, k3, k4, k5⟩
  have hk : m ∈ kepT live T := List.mem_filter.2 ⟨k4, hm⟩
  refine ⟨(T.1, T.2.1, T.2.2.1, kepT live T), ?_, k1, k2, k3, hk, k5⟩
  rw [← k1] at hb
  clear k1 k2 k3 k4 k5 hm
  induction ts with
  | nil => cases hT
  | cons t r ih =>
    rw [synF]
    rcases List.mem_cons.1 hT with rfl | hT
    · rw [hb, cond_true]
      rcases putT_cases T (kepT live T) with ⟨e, _⟩ | ⟨_, e⟩
      · rw [e] at hk; cases hk
      · rw [e]; exact List.mem_append_left _ (List.mem_singleton.2 rfl)
    · have := ih hT
      cases memD t.1 tables
      · exact this
      · exact List.mem_append_right _ this
end Go.AL
/-
  Layer 16: VspaceCacheTrue: what it computes. By an AI agent.
-/
namespace Go.AL
open Go.Proofs
set_option linter.unusedVariables false
set_option linter.unusedSimpArgs false
noncomputable def C_vct : Cfg := ⟨Try.prog, [E_tcap, E_place, E_mnod, E_vmap, E_hasId, E_vunm, E_vdrp, E_syn, E_vflu, E_top, E_wlk, E_vfil, E_rctb, E_vval, E_look, E_str, E_awk], pmT [(11, ([(0, []), (2, []), (3, []), (4, []), (5, []), (13, []), (1, []), (6, []), (7, []), (8, []), (9, []), (10, []), (11, []), (12, []), (14, []), (15, [])], [(20, 21), (51, 63)]))], 209, [], [(4004, tSTr), (157016, tSId), (158018, [.int .i64])]⟩
theorem es_vct : EsOk Try.prog [E_tcap, E_place, E_mnod, E_vmap, E_hasId, E_vunm, E_vdrp, E_syn, E_vflu, E_top, E_wlk, E_vfil, E_rctb, E_vval, E_look, E_str, E_awk] [] := es_cons E_tcap_ok (es_cons E_place_ok (es_cons E_mnod_ok (es_cons E_vmap_ok (es_cons E_hasId_ok (es_cons E_vunm_ok (es_cons E_vdrp_ok (es_cons E_syn_ok (es_cons E_vflu_ok (es_cons E_top_ok (es_cons E_wlk_ok (es_cons E_vfil_ok (es_cons E_rctb_ok (es_cons E_vval_ok (es_cons E_look_ok (es_cons E_str_ok (es_cons E_awk_ok (es_nil)))))))))))))))))
def Lt_vct : Nat → LD := ldT [(0, ⟨[.rd 0 tSAc, .list 3 999 60 4 tSPT, .c 4 (.sl tSTr), .list 5 998 39 3 tSId, .c 6 (.int .i64)], [], 0⟩), (3, ⟨[.rd 0 tSAc, .list 3 999 60 4 tSPT, .c 4 (.sl tSTr), .list 5 998 39 3 tSId, .c 6 (.int .i64), .list 16 997 39 3 tSId, .c 17 (.int .i64)], [], 0⟩), (5, ⟨[.rd 0 tSAc, .list 3 999 60 4 tSPT, .c 4 (.sl tSTr), .list 5 998 39 3 tSId, .c 6 (.int .i64), .list 16 997 39 3 tSId, .list 18 996 3 1 [.int .i64], .c 19 (.int .i64)], [], 0⟩), (7, ⟨[.rd 0 tSAc, .list 3 999 60 4 tSPT, .c 4 (.sl tSTr), .list 5 998 39 3 tSId, .c 6 (.int .i64), .c 22 (.int .i64)], [], 0⟩)]
noncomputable def M_vct (f : Nat) (a : (List (SAc))) : Option (Bool) := (runX (C_vct) Lt_vct (Kret Try.prog [.tmp 2] [.v (.bool)]) f [.code (bodyOf Try.f10)] (initX [.rd tSAc] a) : Option (ResT [.v (.bool)]))
noncomputable def L_vct_0 (f : Nat) (x : (List (SAc)) × (List (SPT)) × (List (STr)) × (List (SId)) × Int) : Option (Bool) := (runX (C_vct) Lt_vct (Kret Try.prog [.tmp 2] [.v (.bool)]) f (headOf Try.f10 0) ((Lt_vct 0).mk' x) : Option (ResT [.v (.bool)]))
noncomputable def L_vct_3 (f : Nat) (x : (List (SAc)) × (List (SPT)) × (List (STr)) × (List (SId)) × Int × (List (SId)) × Int) : Option (Bool) := (runX (C_vct) Lt_vct (Kret Try.prog [.tmp 2] [.v (.bool)]) f (headOf Try.f10 3) ((Lt_vct 3).mk' x) : Option (ResT [.v (.bool)]))
noncomputable def L_vct_5 (f : Nat) (x : (List (SAc)) × (List (SPT)) × (List (STr)) × (List (SId)) × Int × (List (SId)) × (List (Int)) × Int) : Option (Bool) := (runX (C_vct) Lt_vct (Kret Try.prog [.tmp 2] [.v (.bool)]) f (headOf Try.f10 5) ((Lt_vct 5).mk' x) : Option (ResT [.v (.bool)]))
noncomputable def L_vct_7 (f : Nat) (x : (List (SAc)) × (List (SPT)) × (List (STr)) × (List (SId)) × Int × Int) : Option (Bool) := (runX (C_vct) Lt_vct (Kret Try.prog [.tmp 2] [.v (.bool)]) f (headOf Try.f10 7) ((Lt_vct 7).mk' x) : Option (ResT [.v (.bool)]))
theorem M_vct_eq (f : Nat) (l : List (SAc)) : M_vct (f + 1) l =
    L_vct_0 f (l, [], [], [], 0) := by kernel_rfl
theorem L_vct_0_eq (f : Nat) (l : List (SAc)) (ts : List (SPT)) (tlb : List (STr)) (gone : List (SId)) (i : Int) : L_vct_0 (f + 1) (l, ts, tlb, gone, i) =
    bif decide (i < (↑l.length : Int)) then bif decide (i < 60) then bif decide (0 ≤ i) && decide (i < (↑l.length : Int)) then bif place ((l.getD i.toNat (0, 0, 0, 0, 0)).1, 4) == 0 then bif Go.Proofs.mapPre (ts, tcapS (l.getD i.toNat (0, 0, 0, 0, 0)).2.1, place ((l.getD i.toNat (0, 0, 0, 0, 0)).2.2.1, 3), mnodS (l.getD i.toNat (0, 0, 0, 0, 0)).2.2.2.1, 3) then bif (Go.Proofs.mapS (ts, tcapS (l.getD i.toNat (0, 0, 0, 0, 0)).2.1, place ((l.getD i.toNat (0, 0, 0, 0, 0)).2.2.1, 3), mnodS (l.getD i.toNat (0, 0, 0, 0, 0)).2.2.2.1, 3)).2 == 0 then bif len40n gone then bif !memD ((mnodS (l.getD i.toNat (0, 0, 0, 0, 0)).2.2.2.1).1, (mnodS (l.getD i.toNat (0, 0, 0, 0, 0)).2.2.2.1).2.1, (mnodS (l.getD i.toNat (0, 0, 0, 0, 0)).2.2.2.1).2.2.1) gone then bif decide ((↑tlb.length : Int) > 8) then some false else bif okT (Go.Proofs.mapS (ts, tcapS (l.getD i.toNat (0, 0, 0, 0, 0)).2.1, place ((l.getD i.toNat (0, 0, 0, 0, 0)).2.2.1, 3), mnodS (l.getD i.toNat (0, 0, 0, 0, 0)).2.2.2.1, 3)).1 then bif okM (Go.Proofs.mapS (ts, tcapS (l.getD i.toNat (0, 0, 0, 0, 0)).2.1, place ((l.getD i.toNat (0, 0, 0, 0, 0)).2.2.1, 3), mnodS (l.getD i.toNat (0, 0, 0, 0, 0)).2.2.2.1, 3)).1 then bif !tabsB (Go.Proofs.mapS (ts, tcapS (l.getD i.toNat (0, 0, 0, 0, 0)).2.1, place ((l.getD i.toNat (0, 0, 0, 0, 0)).2.2.1, 3), mnodS (l.getD i.toNat (0, 0, 0, 0, 0)).2.2.2.1, 3)).1 then some false else L_vct_7 f (l, (Go.Proofs.mapS (ts, tcapS (l.getD i.toNat (0, 0, 0, 0, 0)).2.1, place ((l.getD i.toNat (0, 0, 0, 0, 0)).2.2.1, 3), mnodS (l.getD i.toNat (0, 0, 0, 0, 0)).2.2.2.1, 3)).1, tlb, gone, i, 0) else none else none else bif decide ((↑tlb.length : Int) > 8) then some false else bif okT ts then bif okM ts then bif !tabsB ts then some false else L_vct_7 f (l, ts, tlb, gone, i, 0) else none else none else none else bif decide ((↑tlb.length : Int) > 8) then some false else bif okT ts then bif okM ts then bif !tabsB ts then some false else L_vct_7 f (l, ts, tlb, gone, i, 0) else none else none else none else bif place ((l.getD i.toNat (0, 0, 0, 0, 0)).1, 4) == 1 then bif okM ts then bif (Go.Proofs.unmS (ts, tcapS (l.getD i.toNat (0, 0, 0, 0, 0)).2.1, place ((l.getD i.toNat (0, 0, 0, 0, 0)).2.2.1, 3))).2.2 == 0 then bif okL tlb then bif decide ((↑(dropS (tlb, (Go.Proofs.unmS (ts, tcapS (l.getD i.toNat (0, 0, 0, 0, 0)).2.1, place ((l.getD i.toNat (0, 0, 0, 0, 0)).2.2.1, 3))).2.1)).length : Int) > 8) then some false else bif okT (Go.Proofs.unmS (ts, tcapS (l.getD i.toNat (0, 0, 0, 0, 0)).2.1, place ((l.getD i.toNat (0, 0, 0, 0, 0)).2.2.1, 3))).1 then bif okM (Go.Proofs.unmS (ts, tcapS (l.getD i.toNat (0, 0, 0, 0, 0)).2.1, place ((l.getD i.toNat (0, 0, 0, 0, 0)).2.2.1, 3))).1 then bif !tabsB (Go.Proofs.unmS (ts, tcapS (l.getD i.toNat (0, 0, 0, 0, 0)).2.1, place ((l.getD i.toNat (0, 0, 0, 0, 0)).2.2.1, 3))).1 then some false else L_vct_7 f (l, (Go.Proofs.unmS (ts, tcapS (l.getD i.toNat (0, 0, 0, 0, 0)).2.1, place ((l.getD i.toNat (0, 0, 0, 0, 0)).2.2.1, 3))).1, dropS (tlb, (Go.Proofs.unmS (ts, tcapS (l.getD i.toNat (0, 0, 0, 0, 0)).2.1, place ((l.getD i.toNat (0, 0, 0, 0, 0)).2.2.1, 3))).2.1), gone, i, 0) else none else none else none else bif decide ((↑tlb.length : Int) > 8) then some false else bif okT ts then bif okM ts then bif !tabsB ts then some false else L_vct_7 f (l, ts, tlb, gone, i, 0) else none else none else none else bif place ((l.getD i.toNat (0, 0, 0, 0, 0)).1, 4) == 2 then bif decide ((gone.length + [((mnodS (l.getD i.toNat (0, 0, 0, 0, 0)).2.2.2.1).1, (mnodS (l.getD i.toNat (0, 0, 0, 0, 0)).2.2.2.1).2.1, (mnodS (l.getD i.toNat (0, 0, 0, 0, 0)).2.2.2.1).2.2.1)].length) * 24 ≤ 140737488355328) then L_vct_3 f (l, ts, tlb, gone ++ [((mnodS (l.getD i.toNat (0, 0, 0, 0, 0)).2.2.2.1).1, (mnodS (l.getD i.toNat (0, 0, 0, 0, 0)).2.2.2.1).2.1, (mnodS (l.getD i.toNat (0, 0, 0, 0, 0)).2.2.2.1).2.2.1)], i, [], 0) else none else bif okM ts then bif (wlkS (ts, (3, 4096, 12, 7, 32, 1, false), IntKind.i64.wrap (IntKind.i64.wrap (place ((l.getD i.toNat (0, 0, 0, 0, 0)).2.2.1, 3) * 2 ^ min (Int.toNat 22) IntKind.i64.bits) + IntKind.i64.wrap (place ((l.getD i.toNat (0, 0, 0, 0, 0)).2.2.2.1, 3) * 2 ^ min (Int.toNat 12) IntKind.i64.bits)))).2 == 0 then bif filPre (tlb, (wlkS (ts, (3, 4096, 12, 7, 32, 1, false), IntKind.i64.wrap (IntKind.i64.wrap (place ((l.getD i.toNat (0, 0, 0, 0, 0)).2.2.1, 3) * 2 ^ min (Int.toNat 22) IntKind.i64.bits) + IntKind.i64.wrap (place ((l.getD i.toNat (0, 0, 0, 0, 0)).2.2.2.1, 3) * 2 ^ min (Int.toNat 12) IntKind.i64.bits)))).1) then bif decide ((↑(filS (tlb, (wlkS (ts, (3, 4096, 12, 7, 32, 1, false), IntKind.i64.wrap (IntKind.i64.wrap (place ((l.getD i.toNat (0, 0, 0, 0, 0)).2.2.1, 3) * 2 ^ min (Int.toNat 22) IntKind.i64.bits) + IntKind.i64.wrap (place ((l.getD i.toNat (0, 0, 0, 0, 0)).2.2.2.1, 3) * 2 ^ min (Int.toNat 12) IntKind.i64.bits)))).1)).length : Int) > 8) then some false else bif okT ts then bif okM ts then bif !tabsB ts then some false else L_vct_7 f (l, ts, filS (tlb, (wlkS (ts, (3, 4096, 12, 7, 32, 1, false), IntKind.i64.wrap (IntKind.i64.wrap (place ((l.getD i.toNat (0, 0, 0, 0, 0)).2.2.1, 3) * 2 ^ min (Int.toNat 22) IntKind.i64.bits) + IntKind.i64.wrap (place ((l.getD i.toNat (0, 0, 0, 0, 0)).2.2.2.1, 3) * 2 ^ min (Int.toNat 12) IntKind.i64.bits)))).1), gone, i, 0) else none else none else none else bif decide ((↑tlb.length : Int) > 8) then some false else bif okT ts then bif okM ts then bif !tabsB ts then some false else L_vct_7 f (l, ts, tlb, gone, i, 0) else none else none else none else none else some true else some true := by kernel_rfl
theorem L_vct_3_eq (f : Nat) (l : List (SAc)) (ts : List (SPT)) (tlb : List (STr)) (gone : List (SId)) (i : Int) (live : List (SId)) (k : Int) : L_vct_3 (f + 1) (l, ts, tlb, gone, i, live, k) =
    bif decide (k < 8) then bif len40n gone then bif !memD ((mnodS k).1, (mnodS k).2.1, (mnodS k).2.2.1) gone then bif decide ((live.length + [((mnodS k).1, (mnodS k).2.1, (mnodS k).2.2.1)].length) * 24 ≤ 140737488355328) then L_vct_3 f (l, ts, tlb, gone, i, live ++ [((mnodS k).1, (mnodS k).2.1, (mnodS k).2.2.1)], IntKind.i64.wrap (k + 1)) else none else L_vct_3 f (l, ts, tlb, gone, i, live, IntKind.i64.wrap (k + 1)) else none else L_vct_5 f (l, ts, tlb, gone, i, live, [], 0) := by kernel_rfl
theorem L_vct_5_eq (f : Nat) (l : List (SAc)) (ts : List (SPT)) (tlb : List (STr)) (gone : List (SId)) (i : Int) (live : List (SId)) (tables : List (Int)) (k : Int) : L_vct_5 (f + 1) (l, ts, tlb, gone, i, live, tables, k) =
    bif decide (k < 4) then bif k == 0 then bif decide ((tables.length + [(tcapS k).2.1].length) * 8 ≤ 140737488355328) then L_vct_5 f (l, ts, tlb, gone, i, live, tables ++ [(tcapS k).2.1], IntKind.i64.wrap (k + 1)) else none else bif len40n gone then bif !memD ((mnodS k).1, (mnodS k).2.1, (mnodS k).2.2.1) gone then bif decide ((tables.length + [(tcapS k).2.1].length) * 8 ≤ 140737488355328) then L_vct_5 f (l, ts, tlb, gone, i, live, tables ++ [(tcapS k).2.1], IntKind.i64.wrap (k + 1)) else none else L_vct_5 f (l, ts, tlb, gone, i, live, tables, IntKind.i64.wrap (k + 1)) else none else bif synPre (ts, live, tables) then bif fluPre (tlb, live, tables) then bif decide ((↑(fluS (tlb, live, tables)).length : Int) > 8) then some false else bif okT (synS (ts, live, tables)) then bif okM (synS (ts, live, tables)) then bif !tabsB (synS (ts, live, tables)) then some false else L_vct_7 f (l, synS (ts, live, tables), fluS (tlb, live, tables), gone, i, 0) else none else none else none else none := by kernel_rfl
theorem L_vct_7_eq (f : Nat) (l : List (SAc)) (ts : List (SPT)) (tlb : List (STr)) (gone : List (SId)) (i : Int) (k : Int) : L_vct_7 (f + 1) (l, ts, tlb, gone, i, k) =
    bif decide (k < 9) then bif okL tlb then bif okM ts then bif (lokS (tlb, 4096, (IntKind.i64.wrap (IntKind.i64.wrap (IntKind.i64.wrap (k.tdiv 3) * 2 ^ min (Int.toNat 22) IntKind.i64.bits) + IntKind.i64.wrap (k.tmod 3 * 2 ^ min (Int.toNat 12) IntKind.i64.bits))).fdiv (2 ^ min (Int.toNat 12) IntKind.i64.bits))).2 then bif (wlkS (ts, (3, 4096, 12, 7, 32, 1, false), IntKind.i64.wrap (IntKind.i64.wrap (IntKind.i64.wrap (k.tdiv 3) * 2 ^ min (Int.toNat 22) IntKind.i64.bits) + IntKind.i64.wrap (k.tmod 3 * 2 ^ min (Int.toNat 12) IntKind.i64.bits)))).2 != 0 then some false else bif strPre ((lokS (tlb, 4096, (IntKind.i64.wrap (IntKind.i64.wrap (IntKind.i64.wrap (k.tdiv 3) * 2 ^ min (Int.toNat 22) IntKind.i64.bits) + IntKind.i64.wrap (k.tmod 3 * 2 ^ min (Int.toNat 12) IntKind.i64.bits))).fdiv (2 ^ min (Int.toNat 12) IntKind.i64.bits))).1, (wlkS (ts, (3, 4096, 12, 7, 32, 1, false), IntKind.i64.wrap (IntKind.i64.wrap (IntKind.i64.wrap (k.tdiv 3) * 2 ^ min (Int.toNat 22) IntKind.i64.bits) + IntKind.i64.wrap (k.tmod 3 * 2 ^ min (Int.toNat 12) IntKind.i64.bits)))).1) then bif !decide ((lokS (tlb, 4096, (IntKind.i64.wrap (IntKind.i64.wrap (IntKind.i64.wrap (k.tdiv 3) * 2 ^ min (Int.toNat 22) IntKind.i64.bits) + IntKind.i64.wrap (k.tmod 3 * 2 ^ min (Int.toNat 12) IntKind.i64.bits))).fdiv (2 ^ min (Int.toNat 12) IntKind.i64.bits))).1 = (wlkS (ts, (3, 4096, 12, 7, 32, 1, false), IntKind.i64.wrap (IntKind.i64.wrap (IntKind.i64.wrap (k.tdiv 3) * 2 ^ min (Int.toNat 22) IntKind.i64.bits) + IntKind.i64.wrap (k.tmod 3 * 2 ^ min (Int.toNat 12) IntKind.i64.bits)))).1) then some false else L_vct_7 f (l, ts, tlb, gone, i, IntKind.i64.wrap (k + 1)) else none else L_vct_7 f (l, ts, tlb, gone, i, IntKind.i64.wrap (k + 1)) else none else none else L_vct_0 f (l, ts, tlb, gone, IntKind.i64.wrap (i + 1)) := by kernel_rfl
/-! ### What holds at each step -/
structure Inv (n : Nat) (ts : List SPT) (tlb : List STr) (gone : List SId) : Prop where
  vts : Vts ts
  okn : okN n ts = true
  len : tlb.length ≤ 8
  ok : ∀ x ∈ tlb, Wok ts x
  gl : gone.length ≤ n
theorem Wok.pre {ts : List SPT} {x : STr} (h : Wok ts x) : trPre x = true := by
  have := wlkS_pre (ts, vcTop, x.2.1 * 4096)
  rw [h.2] at this; exact this
structure Chk (ts : List SPT) (tlb : List STr) : Prop where
  c1 : decide (((tlb.length : Nat) : Int) > 8) = false
  c2 : okT ts = true
  c3 : okM ts = true
  c4 : tabsB ts = true
  c5 : okL tlb = true
theorem Inv.chk {n : Nat} {ts : List SPT} {tlb : List STr} {gone : List SId} (h : Inv n ts tlb gone) (hn : n ≤ 1000) : Chk ts tlb := by
  have k1 := okN_okT (by omega) h.okn
  have hl := h.len
  refine ⟨decide_eq_false (by omega), k1, okT_okM k1, (tabsB_iff ts).2 h.vts, ?_⟩
  unfold okL
  rw [Bool.and_eq_true]
  exact ⟨decide_eq_true (by omega), List.all_eq_true.2 fun x hx => (h.ok x hx).pre⟩
theorem lok_inv {tlb : List STr} {r p : Int} (h : (lokS (tlb, r, p)).2 = true) : ∃ x ∈ tlb, x.1 = r ∧ x.2.1 = p ∧ lokS (tlb, r, p) = (x, true) := by
  unfold lokS at h ⊢
  cases hf : tlb.find? (fun t => decide (t.1 = r) && decide (t.2.1 = p)) with
  | none => simp only [hf] at h; cases h
  | some x =>
    have h1 := List.find?_some hf
    have h2 := List.mem_of_find?_eq_some hf
    simp only [Bool.and_eq_true, decide_eq_true_eq] at h1
    exact ⟨x, h2, h1.1, h1.2, by simp only [hf]⟩
def adK (k : Int) : Int := IntKind.i64.wrap (IntKind.i64.wrap (IntKind.i64.wrap (k.tdiv 3) * 2 ^ min (Int.toNat 22) IntKind.i64.bits) + IntKind.i64.wrap (k.tmod 3 * 2 ^ min (Int.toNat 12) IntKind.i64.bits))
def pgK (k : Int) : Int := (adK k).fdiv (2 ^ min (Int.toNat 12) IntKind.i64.bits)
theorem pgK_ok : ∀ k ∈ ([0, 1, 2, 3, 4, 5, 6, 7, 8] : List Int), pgK k * 4096 = adK k := by decide +kernel
theorem vct7 {n : Nat} {l : List SAc} {ts : List SPT} {tlb : List STr} {gone : List SId} {i : Int} (h : Inv n ts tlb gone) (hn : n ≤ 1000) (hf : ∃ f, L_vct_0 f (l, ts, tlb, gone, IntKind.i64.wrap (i + 1)) = some true) : ∀ (m k : Nat), k + m = 9 → ∃ f, L_vct_7 f (l, ts, tlb, gone, i, ((k : Nat) : Int)) = some true
  | 0, k, hk => by
    obtain ⟨f, hf⟩ := hf
    refine ⟨f + 1, (L_vct_7_eq f _ _ _ _ _ _).trans ?_⟩
    rw [decide_eq_false (by omega)]; exact hf
  | m + 1, k, hk => by
    obtain ⟨f, hf⟩ := vct7 h hn hf m (k + 1) (by omega)
    have e1 : IntKind.i64.wrap (((k : Nat) : Int) + 1) = ((k + 1 : Nat) : Int) := w1 (by omega)
    have c := h.chk hn
    have hpg : pgK ((k : Nat) : Int) * 4096 = adK ((k : Nat) : Int) := pgK_ok _ (by simp only [List.mem_cons, List.not_mem_nil, or_false]; omega)
    refine ⟨f + 1, (L_vct_7_eq f _ _ _ _ _ _).trans ?_⟩
    rw [decide_eq_true (show ((k : Nat) : Int) < 9 by omega), c.c5, c.c3, e1, hf]
    show (bif (lokS (tlb, 4096, pgK ((k : Nat) : Int))).2 then bif (wlkS (ts, vcTop, adK ((k : Nat) : Int))).2 != 0 then some false else bif strPre ((lokS (tlb, 4096, pgK ((k : Nat) : Int))).1, (wlkS (ts, vcTop, adK ((k : Nat) : Int))).1) then bif !decide ((lokS (tlb, 4096, pgK ((k : Nat) : Int))).1 = (wlkS (ts, vcTop, adK ((k : Nat) : Int))).1) then some false else some true else none else some true) = some true
    cases hl : (lokS (tlb, 4096, pgK ((k : Nat) : Int))).2
    · rfl
    · obtain ⟨x, hx, x1, x2, e⟩ := lok_inv hl
      have hw := (h.ok x hx).2
      rw [x2, hpg] at hw
      have hs : strPre (x, x) = true := tr40 (h.ok x hx).pre
      rw [e, hw]
      simp only [hs, cond_true, decide_true, Bool.not_true, cond_false]; rfl
theorem synF_okN {n : Nat} {live : List SId} {tables : List Int} {ts : List SPT} (h : okN n ts = true) : okN n (synF live tables ts) = true := by
  refine okN_mk ?_ fun u hu => ?_
  · have h1 : ∀ l : List SPT, (synF live tables l).length ≤ l.length := fun l => by
      induction l with
      | nil => exact Nat.le_refl _
      | cons t r ih =>
        rw [synF]
        cases memD t.1 tables
        · rw [cond_false, List.length_cons]; omega
        · have := putT_len [] t (kepT live t)
          rw [cond_true, List.length_append, List.length_cons]
          simp only [List.length_nil] at this
          omega
    exact Nat.le_trans (h1 ts) (okN_len h)
  · obtain ⟨t, ht, -, -, rfl⟩ := synF_mem live tables ts u hu
    exact Nat.le_trans (List.length_filter_le _ _) (okN_mem h ht)
theorem Inv.syn {n : Nat} {ts : List SPT} {tlb : List STr} {gone : List SId} (h : Inv n ts tlb gone) (live : List SId) (tables : List Int) : Inv n (synS (ts, live, tables)) (fluS (tlb, live, tables)) gone := by
  rw [synS_F]
  refine ⟨synF_vts h.vts, synF_okN h.okn, Nat.le_trans (List.length_filter_le _ _) h.len, fun x hx => ?_, h.gl⟩
  obtain ⟨h1, h2⟩ := List.mem_filter.1 hx
  have h2 : keepL live tables x = true := h2
  unfold keepL at h2
  rw [Bool.and_eq_true, List.all_eq_true, List.all_eq_true] at h2
  exact (h.ok x h1).keep h.vts (synF_vts h.vts) fun w lv b i m hb hm hs => syn_keep (h2.2 b hb) (h2.1 _ hm) hs
theorem Inv.grow {n : Nat} {ts : List SPT} {tlb : List STr} {gone : List SId} (h : Inv n ts tlb gone) : Inv (n + 1) ts tlb gone :=
  ⟨h.vts, okN_le (Nat.le_succ _) h.okn, h.len, h.ok, Nat.le_succ_of_le h.gl⟩
theorem Inv.map {n : Nat} {ts : List SPT} {tlb : List STr} {gone : List SId} (h : Inv n ts tlb gone) (t p : Int) {k : Int} (h0 : 0 ≤ k) (h1 : k < 1024) (hz : (mapS (ts, tcapS t, k, mnodS p, 3)).2 = 0) : Inv (n + 1) (mapS (ts, tcapS t, k, mnodS p, 3)).1 tlb gone := by
  obtain ⟨hv, hs⟩ := map_keep h.vts t p h0 h1 (mask := 3) (by omega) (by omega) hz
  exact ⟨hv, mapS_okN _ h.okn, h.len, fun x hx => (h.ok x hx).keep h.vts hv fun w lv b i m _ _ => hs w lv b i m, Nat.le_succ_of_le h.gl⟩
theorem Inv.unm {n : Nat} {ts : List SPT} {tlb : List STr} {gone : List SId} (h : Inv n ts tlb gone) (c : SCp) (k : Int) (hz : (unmS (ts, c, k)).2.2 = 0) : Inv n (unmS (ts, c, k)).1 (dropS (tlb, (unmS (ts, c, k)).2.1)) gone := by
  obtain ⟨hv, hs⟩ := unm_keep h.vts c k hz
  refine ⟨hv, unmS_okN _ h.okn, Nat.le_trans (List.length_filter_le _ _) h.len, fun x hx => ?_, h.gl⟩
  obtain ⟨h1, h2⟩ := List.mem_filter.1 hx
  have h2 : memD (unmS (ts, c, k)).2.1 x.2.2.2.2.1 = false := by simpa using h2
  refine (h.ok x h1).keep h.vts hv fun w lv b i m hb hm hst => hs w lv b i m (fun e => ?_) hst
  rw [e] at hm
  have : memD (unmS (ts, c, k)).2.1 x.2.2.2.2.1 = true := memD_iff.2 hm
  rw [h2] at this; cases this
theorem fil_mem {tlb : List STr} {t x : STr} (h : x ∈ filS (tlb, t)) : x = t ∨ x ∈ tlb := by
  have h := List.mem_of_mem_drop (show x ∈ List.drop _ _ from h)
  rcases List.mem_append.1 h with h | h
  · exact .inr (List.mem_filter.1 h).1
  · exact .inl (List.mem_singleton.1 h)
theorem fil_len8 (a : List STr × STr) : (filS a).length ≤ 8 := by
  unfold filS cutL; rw [List.length_drop]; omega
theorem Inv.fill {n : Nat} {ts : List SPT} {tlb : List STr} {gone : List SId} (h : Inv n ts tlb gone) {a : Int} (ha : a / 4096 * 4096 = a) (hz : (wlkS (ts, vcTop, a)).2 = 0) : Inv n ts (filS (tlb, (wlkS (ts, vcTop, a)).1)) gone := by
  refine ⟨h.vts, h.okn, fil_len8 _, fun x hx => ?_, h.gl⟩
  rcases fil_mem hx with e | hx
  · have hw : wlkS (ts, vcTop, a) = (x, 0) := by rw [e, ← hz]
    obtain ⟨hva, m1, m0, hp, e2⟩ := wlk_inv h.vts hw
    have e3 : x.2.1 = a / 4096 := by rw [e2]; rfl
    exact ⟨by rw [e2]; rfl, by rw [e3, ha]; exact hw⟩
  · exact h.ok x hx
theorem vct5 {l : List SAc} {ts : List SPT} {tlb : List STr} {gone : List SId} {i : Int} {n : Nat} (h : Inv n ts tlb gone) (hn : n ≤ 1000) (hnext : ∀ live tables, ∃ f, L_vct_7 f (l, synS (ts, live, tables), fluS (tlb, live, tables), gone, i, 0) = some true) (live : List SId) (hl : live.length ≤ 8) :
    ∀ (m k : Nat) (tables : List Int), k + m = 4 → tables.length ≤ k → ∃ f, L_vct_5 f (l, ts, tlb, gone, i, live, tables, ((k : Nat) : Int)) = some true
  | 0, k, tables, hk, ht => by
    obtain ⟨f, hf⟩ := hnext live tables
    have c := h.chk hn
    have c2 := (h.syn live tables).chk hn
    have k1 : len40n live = true := decide_eq_true (by omega)
    have k2 : len40n tables = true := decide_eq_true (by omega)
    have k3 : synPre (ts, live, tables) = true := by simp only [synPre, c.c2, k1, k2, Bool.and_self]
    have k4 : fluPre (tlb, live, tables) = true := by simp only [fluPre, c.c5, k1, k2, Bool.and_self]
    refine ⟨f + 1, (L_vct_5_eq f _ _ _ _ _ _ _ _).trans ?_⟩
    rw [decide_eq_false (show ¬ ((k : Nat) : Int) < 4 by omega), k3, k4, c2.c1, c2.c2, c2.c3, c2.c4]
    exact hf
  | m + 1, k, tables, hk, ht => by
    have e1 : IntKind.i64.wrap (((k : Nat) : Int) + 1) = ((k + 1 : Nat) : Int) := w1 (by omega)
    have hg : len40n gone = true := decide_eq_true (by have := h.gl; omega)
    have e2 : decide ((tables.length + [(tcapS ((k : Nat) : Int)).2.1].length) * 8 ≤ 140737488355328) = true := decide_eq_true (by simp only [List.length_singleton]; omega)
    obtain ⟨f, hf⟩ := vct5 h hn hnext live hl m (k + 1) (tables ++ [(tcapS ((k : Nat) : Int)).2.1]) (by omega) (by simp; omega)
    obtain ⟨g, hg2⟩ := vct5 h hn hnext live hl m (k + 1) tables (by omega) (by omega)
    cases h1 : ((k : Nat) : Int) == 0
    · cases h2 : memD ((mnodS ((k : Nat) : Int)).1, (mnodS ((k : Nat) : Int)).2.1, (mnodS ((k : Nat) : Int)).2.2.1) gone
      · refine ⟨f + 1, (L_vct_5_eq f _ _ _ _ _ _ _ _).trans ?_⟩
        rw [decide_eq_true (show ((k : Nat) : Int) < 4 by omega), h1, hg, h2, e2, e1]
        exact hf
      · refine ⟨g + 1, (L_vct_5_eq g _ _ _ _ _ _ _ _).trans ?_⟩
        rw [decide_eq_true (show ((k : Nat) : Int) < 4 by omega), h1, hg, h2, e1]
        exact hg2
    · refine ⟨f + 1, (L_vct_5_eq f _ _ _ _ _ _ _ _).trans ?_⟩
      rw [decide_eq_true (show ((k : Nat) : Int) < 4 by omega), h1, e2, e1]
      exact hf
theorem vct3 {l : List SAc} {ts : List SPT} {tlb : List STr} {gone : List SId} {i : Int} {n : Nat} (h : Inv n ts tlb gone) (hn : n ≤ 1000) (hnext : ∀ live tables, ∃ f, L_vct_7 f (l, synS (ts, live, tables), fluS (tlb, live, tables), gone, i, 0) = some true) :
    ∀ (m k : Nat) (live : List SId), k + m = 8 → live.length ≤ k → ∃ f, L_vct_3 f (l, ts, tlb, gone, i, live, ((k : Nat) : Int)) = some true
  | 0, k, live, hk, ht => by
    obtain ⟨f, hf⟩ := vct5 h hn hnext live (by omega) 4 0 [] rfl (Nat.le_refl _)
    refine ⟨f + 1, (L_vct_3_eq f _ _ _ _ _ _ _).trans ?_⟩
    rw [decide_eq_false (show ¬ ((k : Nat) : Int) < 8 by omega)]
    exact hf
  | m + 1, k, live, hk, ht => by
    have e1 : IntKind.i64.wrap (((k : Nat) : Int) + 1) = ((k + 1 : Nat) : Int) := w1 (by omega)
    have hg : len40n gone = true := decide_eq_true (by have := h.gl; omega)
    have e2 : decide ((live.length + [((mnodS ((k : Nat) : Int)).1, (mnodS ((k : Nat) : Int)).2.1, (mnodS ((k : Nat) : Int)).2.2.1)].length) * 24 ≤ 140737488355328) = true := decide_eq_true (by simp only [List.length_singleton]; omega)
    cases h2 : memD ((mnodS ((k : Nat) : Int)).1, (mnodS ((k : Nat) : Int)).2.1, (mnodS ((k : Nat) : Int)).2.2.1) gone
    · obtain ⟨f, hf⟩ := vct3 h hn hnext m (k + 1) (live ++ [((mnodS ((k : Nat) : Int)).1, (mnodS ((k : Nat) : Int)).2.1, (mnodS ((k : Nat) : Int)).2.2.1)]) (by omega) (by simp; omega)
      refine ⟨f + 1, (L_vct_3_eq f _ _ _ _ _ _ _).trans ?_⟩
      rw [decide_eq_true (show ((k : Nat) : Int) < 8 by omega), hg, h2, e2, e1]
      exact hf
    · obtain ⟨g, hg2⟩ := vct3 h hn hnext m (k + 1) live (by omega) (by omega)
      refine ⟨g + 1, (L_vct_3_eq g _ _ _ _ _ _ _).trans ?_⟩
      rw [decide_eq_true (show ((k : Nat) : Int) < 8 by omega), hg, h2, e1]
      exact hg2
def adW (x y : Int) : Int := IntKind.i64.wrap (IntKind.i64.wrap (x * 2 ^ min (Int.toNat 22) IntKind.i64.bits) + IntKind.i64.wrap (y * 2 ^ min (Int.toNat 12) IntKind.i64.bits))
theorem adW_ok : ∀ x ∈ ([0, 1, 2] : List Int), ∀ y ∈ ([0, 1, 2] : List Int), adW x y / 4096 * 4096 = adW x y := by decide +kernel
theorem mem3 {p : Int} (h0 : 0 ≤ p) (h1 : p < 3) : p ∈ ([0, 1, 2] : List Int) := by
  simp only [List.mem_cons, List.not_mem_nil, or_false]; omega
theorem vct0 : ∀ (rest pre : List SAc) (ts : List SPT) (tlb : List STr) (gone : List SId), pre.length ≤ 60 → Inv pre.length ts tlb gone → ∃ f, L_vct_0 f (pre ++ rest, ts, tlb, gone, ((pre.length : Nat) : Int)) = some true
  | [], pre, ts, tlb, gone, hp, h => ⟨1, (L_vct_0_eq 0 _ _ _ _ _).trans (by rw [lt_end]; rfl)⟩
  | u :: rest, pre, ts, tlb, gone, hp, h => by
    by_cases h60 : ((pre.length : Nat) : Int) < 60
    case neg => exact ⟨1, (L_vct_0_eq 0 _ _ _ _ _).trans (by rw [lt_mid, decide_eq_false h60]; rfl)⟩
    have el : (pre ++ [u]).length = pre.length + 1 := by simp
    have e1 : IntKind.i64.wrap (((pre.length : Nat) : Int) + 1) = ((pre.length + 1 : Nat) : Int) := w1 (by omega)
    have NX : ∀ ts' tlb' gone', Inv (pre.length + 1) ts' tlb' gone' → ∃ f, L_vct_7 f (pre ++ u :: rest, ts', tlb', gone', ((pre.length : Nat) : Int), 0) = some true := fun ts' tlb' gone' h' => by
      have hf := vct0 rest (pre ++ [u]) ts' tlb' gone' (by rw [el]; omega) (by rw [el]; exact h')
      rw [el, List.append_assoc, ← e1] at hf
      exact vct7 h' (by omega) hf 9 0 rfl
    have c := h.chk (by omega)
    have hg : len40n gone = true := decide_eq_true (by have := h.gl; omega)
    obtain ⟨f0, hf0⟩ := NX ts tlb gone h.grow
    have hw0 := place_lo u.1 4
    have hw1 := place_hi u.1 (s := 4) (by omega)
    have hi0 := place_lo u.2.2.1 3
    have hi1 := place_hi u.2.2.1 (s := 3) (by omega)
    have hj0 := place_lo u.2.2.2.1 3
    have hj1 := place_hi u.2.2.2.1 (s := 3) (by omega)
    have b10 : ((1 : Int) == 0) = false := rfl
    have b20 : ((2 : Int) == 0) = false := rfl
    have b21 : ((2 : Int) == 1) = false := rfl
    have b30 : ((3 : Int) == 0) = false := rfl
    have b31 : ((3 : Int) == 1) = false := rfl
    have b32 : ((3 : Int) == 2) = false := rfl
    rcases (show place (u.1, 4) = 0 ∨ place (u.1, 4) = 1 ∨ place (u.1, 4) = 2 ∨ place (u.1, 4) = 3 by omega) with hw | hw | hw | hw
    · have hP : mapPre (ts, tcapS u.2.1, place (u.2.2.1, 3), mnodS u.2.2.2.1, 3) = true := c.c3
      by_cases hz : (mapS (ts, tcapS u.2.1, place (u.2.2.1, 3), mnodS u.2.2.2.1, 3)).2 = 0
      · have hi := h.map u.2.1 u.2.2.2.1 hi0 (by omega) hz
        have c2 := hi.chk (by omega)
        obtain ⟨f, hf⟩ := NX _ _ _ hi
        cases hm : memD ((mnodS u.2.2.2.1).1, (mnodS u.2.2.2.1).2.1, (mnodS u.2.2.2.1).2.2.1) gone
        · refine ⟨f + 1, (L_vct_0_eq f _ _ _ _ _).trans ?_⟩
          simp only [lt_mid, getD_mid, ge0, decide_eq_true h60, hw, hP, hz, hg, hm, c2.c1, c2.c2, c2.c3, c2.c4, beq_self_eq_true, cond_true, cond_false, Bool.and_self, Bool.not_true, Bool.not_false]
          exact hf
        · refine ⟨f0 + 1, (L_vct_0_eq f0 _ _ _ _ _).trans ?_⟩
          simp only [lt_mid, getD_mid, ge0, decide_eq_true h60, hw, hP, hz, hg, hm, c.c1, c.c2, c.c3, c.c4, beq_self_eq_true, cond_true, cond_false, Bool.and_self, Bool.not_true, Bool.not_false]
          exact hf0
      · have hz2 : ((mapS (ts, tcapS u.2.1, place (u.2.2.1, 3), mnodS u.2.2.2.1, 3)).2 == 0) = false := beq_eq_false_iff_ne.2 hz
        refine ⟨f0 + 1, (L_vct_0_eq f0 _ _ _ _ _).trans ?_⟩
        simp only [lt_mid, getD_mid, ge0, decide_eq_true h60, hw, hP, hz2, hg, c.c1, c.c2, c.c3, c.c4, beq_self_eq_true, cond_true, cond_false, Bool.and_self, Bool.not_true, Bool.not_false]
        exact hf0
    · by_cases hz : (unmS (ts, tcapS u.2.1, place (u.2.2.1, 3))).2.2 = 0
      · have hi := (h.unm (tcapS u.2.1) (place (u.2.2.1, 3)) hz).grow
        have c2 := hi.chk (by omega)
        obtain ⟨f, hf⟩ := NX _ _ _ hi
        refine ⟨f + 1, (L_vct_0_eq f _ _ _ _ _).trans ?_⟩
        simp only [lt_mid, getD_mid, ge0, decide_eq_true h60, hw, b10, hz, c.c3, c.c5, c2.c1, c2.c2, c2.c3, c2.c4, beq_self_eq_true, cond_true, cond_false, Bool.and_self, Bool.not_true, Bool.not_false]
        exact hf
      · have hz2 : ((unmS (ts, tcapS u.2.1, place (u.2.2.1, 3))).2.2 == 0) = false := beq_eq_false_iff_ne.2 hz
        refine ⟨f0 + 1, (L_vct_0_eq f0 _ _ _ _ _).trans ?_⟩
        simp only [lt_mid, getD_mid, ge0, decide_eq_true h60, hw, b10, hz2, c.c1, c.c2, c.c3, c.c4, c.c5, beq_self_eq_true, cond_true, cond_false, Bool.and_self, Bool.not_true, Bool.not_false]
        exact hf0
    · have hi : Inv (pre.length + 1) ts tlb (gone ++ [((mnodS u.2.2.2.1).1, (mnodS u.2.2.2.1).2.1, (mnodS u.2.2.2.1).2.2.1)]) :=
        ⟨h.vts, h.grow.okn, h.len, h.ok, by have := h.gl; simp; omega⟩
      obtain ⟨f, hf⟩ := vct3 (l := pre ++ u :: rest) (i := ((pre.length : Nat) : Int)) hi (by omega) (fun live tables => NX _ _ _ (hi.syn live tables)) 8 0 [] rfl (Nat.le_refl _)
      have e2 : decide ((gone.length + [((mnodS u.2.2.2.1).1, (mnodS u.2.2.2.1).2.1, (mnodS u.2.2.2.1).2.2.1)].length) * 24 ≤ 140737488355328) = true := decide_eq_true (by have := h.gl; simp only [List.length_singleton]; omega)
      refine ⟨f + 1, (L_vct_0_eq f _ _ _ _ _).trans ?_⟩
      simp only [lt_mid, getD_mid, ge0, decide_eq_true h60, hw, b20, b21, e2, beq_self_eq_true, cond_true, cond_false, Bool.and_self, Bool.not_true, Bool.not_false]
      exact hf
    · by_cases hz : (wlkS (ts, vcTop, adW (place (u.2.2.1, 3)) (place (u.2.2.2.1, 3)))).2 = 0
      · have hi := (h.fill (adW_ok _ (mem3 hi0 hi1) _ (mem3 hj0 hj1)) hz).grow
        have c2 := hi.chk (by omega)
        obtain ⟨f, hf⟩ := NX _ _ _ hi
        have hP : filPre (tlb, (wlkS (ts, vcTop, adW (place (u.2.2.1, 3)) (place (u.2.2.2.1, 3)))).1) = true := by
          have := wlkS_pre (ts, vcTop, adW (place (u.2.2.1, 3)) (place (u.2.2.2.1, 3)))
          simp only [filPre, c.c5, this, Bool.and_self]
        unfold vcTop adW at hP hz c2 hf
        refine ⟨f + 1, (L_vct_0_eq f _ _ _ _ _).trans ?_⟩
        simp only [lt_mid, getD_mid, ge0, decide_eq_true h60, hw, b30, b31, b32, hP, hz, c2.c1, c2.c2, c2.c3, c2.c4, beq_self_eq_true, cond_true, cond_false, Bool.and_self, Bool.not_true, Bool.not_false]
        exact hf
      · have hz2 : ((wlkS (ts, vcTop, adW (place (u.2.2.1, 3)) (place (u.2.2.2.1, 3)))).2 == 0) = false := beq_eq_false_iff_ne.2 hz
        unfold vcTop adW at hz2
        refine ⟨f0 + 1, (L_vct_0_eq f0 _ _ _ _ _).trans ?_⟩
        simp only [lt_mid, getD_mid, ge0, decide_eq_true h60, hw, b30, b31, b32, hz2, c.c1, c.c2, c.c3, c.c4, beq_self_eq_true, cond_true, cond_false, Bool.and_self, Bool.not_true, Bool.not_false]
        exact hf0
theorem vct_true : ∀ a : List SAc, ∃ f, M_vct f a = some true := fun l => by
  obtain ⟨f, hf⟩ := vct0 l [] [] [] [] (by simp) ⟨⟨by simp, by simp⟩, okN_mk (by simp) (by simp), by simp, by simp, by simp⟩
  exact ⟨f + 1, (M_vct_eq f l).trans hf⟩
end Go.AL
