/-
  Layer 16: walks, Sync and caches: models. By an AI agent.
-/
import Derived.Test.YtcpdakiailaneaaV5
import Derived.Test.YtcpdakiailaneaaVe
namespace Go.AL
open Go.Proofs
set_option linter.unusedVariables false
set_option linter.unusedSimpArgs false
theorem ctr_P : ∀ t : STr, (fun t : STr => len40n t.2.2.2.2.1 && len40n t.2.2.2.2.2) t = true → P_ctr t = true := fun t h => h
theorem ctr_F : ∀ t : STr, (fun t : STr => len40n t.2.2.2.2.1 && len40n t.2.2.2.2.2) t = true → F_ctr t = (fun t => t) t := fun t h => rfl
theorem ctr_run : ∀ a, (fun t : STr => len40n t.2.2.2.2.1 && len40n t.2.2.2.2.2 : STr → Bool) a = true → ∃ f, M_ctr f a = some ((fun t => t : STr → STr) a) := fun a h => by have h1 := ctr_auto a (ctr_P a h); rw [ctr_F a h] at h1; exact h1
noncomputable def E_ctr : Ent := ⟨70, [.g tSTr], [.g tSTr], fun a => (fun t : STr => len40n t.2.2.2.2.1 && len40n t.2.2.2.2.2 : STr → Bool) a, fun a => (fun t => t : STr → STr) a⟩
theorem E_ctr_ok : E_ctr.Ok Try.prog := fun a hp vs hv => (ctr_run a hp).elim fun f h => fnX_ok (C := C_ctr) (Lt := Lt_ctr) (fn := Try.f70) (rs := [.cell 2 45]) [.g tSTr] [.g tSTr] mixed es_ctr Try.func70 rfl rfl rfl (by kernel_rfl) (by kernel_rfl) f h vs hv
instance decSTr : DecidableEq STr := @instDecidableEqProd _ _ (inferInstanceAs (DecidableEq Int)) (@instDecidableEqProd _ _ (inferInstanceAs (DecidableEq Int)) (@instDecidableEqProd _ _ (inferInstanceAs (DecidableEq Int)) (@instDecidableEqProd _ _ (inferInstanceAs (DecidableEq Int)) (@instDecidableEqProd _ _ (inferInstanceAs (DecidableEq (List (Int × Int × Int)))) (inferInstanceAs (DecidableEq (List Int)))))))
def strPre (a : STr × STr) : Bool := len40n a.1.2.2.2.2.1 && len40n a.1.2.2.2.2.2
theorem str_both : ∀ a : STr × STr, strPre a = true → P_str a = true ∧ F_str a = decide (a.1 = a.2) := by
  rintro ⟨⟨a1, a2, a3, a4, a5, a6⟩, ⟨b1, b2, b3, b4, b5, b6⟩⟩ h
  obtain ⟨h1, h2⟩ := Bool.and_eq_true_iff.1 h
  have h1 : len40n a5 = true := h1
  have h2 : len40n a6 = true := h2
  simp only [P_str, F_str, h1, h2, beqI]
  by_cases e : a1 = b1 ∧ a2 = b2 ∧ a3 = b3 ∧ a4 = b4 ∧ a5 = b5 ∧ a6 = b6
  · obtain ⟨rfl, rfl, rfl, rfl, rfl, rfl⟩ := e
    simp
  · have e2 : ¬ ((a1, a2, a3, a4, a5, a6) : STr) = (b1, b2, b3, b4, b5, b6) := fun e' => e (by
      simp only [Prod.mk.injEq] at e'
      exact e')
    rw [decide_eq_false e2]
    by_cases c1 : a1 = b1 <;> by_cases c2 : a2 = b2 <;> by_cases c3 : a3 = b3 <;> by_cases c4 : a4 = b4 <;> by_cases c5 : a5 = b5 <;> by_cases c6 : a6 = b6 <;> simp_all
theorem str_P : ∀ a : STr × STr, strPre a = true → P_str a = true := fun a h => (str_both a h).1
theorem str_F : ∀ a : STr × STr, strPre a = true → F_str a = (fun a => decide (a.1 = a.2)) a := fun a h => (str_both a h).2
theorem str_run : ∀ a, (strPre : STr × STr → Bool) a = true → ∃ f, M_str f a = some ((fun a => decide (a.1 = a.2) : STr × STr → Bool) a) := fun a h => by have h1 := str_auto a (str_P a h); rw [str_F a h] at h1; exact h1
noncomputable def E_str : Ent := ⟨39, [.g tSTr, .g tSTr], [.v (.bool)], fun a => (strPre : STr × STr → Bool) a, fun a => (fun a => decide (a.1 = a.2) : STr × STr → Bool) a⟩
theorem E_str_ok : E_str.Ok Try.prog := fun a hp vs hv => (str_run a hp).elim fun f h => fnX_ok (C := C_str) (Lt := Lt_str) (fn := Try.f39) (rs := [.tmp 4]) [.g tSTr, .g tSTr] [.v (.bool)] mixed es_str Try.func39 rfl rfl rfl (by kernel_rfl) (by kernel_rfl) f h vs hv
def taS (ts : List SPT) (b : Int) : SPT := ts.getD (ftS ts b).toNat (0, 0, 0, [])
def faS (ts : List SPT) (w addr lv b : Int) : Int := fmS (taS ts b).2.2.2 (ixS (w, lv, addr))
def maS (ts : List SPT) (w addr lv b : Int) : SMp := List.getD (taS ts b).2.2.2 (faS ts w addr lv b).toNat (0, 0, 0, 0, 0, 0)
section
variable {ρ : Type} {A B : Nat → Option ρ} {c p : Bool} {x : ρ}
theorem evx_chk (ha : Rns A p x) : Rns (fun f => bif c then A f else B f) (c && p) x := by
  cases c
  · intro h; cases h
  · exact ha
theorem evx_chk1 (ha : Rns A true x) : Rns (fun f => bif c then A f else B f) c x := by
  cases c
  · intro h; cases h
  · exact ha
end
noncomputable def C_wlk : Cfg := ⟨Try.prog, [E_vval, E_geom, E_vcap, E_pva, E_find, E_pix, E_mapg], pmT [(14, ([(0, []), (1, []), (2, []), (3, []), (4, []), (5, []), (6, []), (7, []), (8, []), (9, []), (10, []), (11, []), (12, []), (13, []), (14, []), (15, []), (16, []), (17, []), (18, []), (19, []), (20, [])], [(72, 92)])), (16, ([(0, []), (1, []), (2, []), (3, []), (4, []), (5, []), (6, []), (7, []), (8, []), (9, []), (10, []), (11, []), (12, []), (13, []), (14, [])], [(16, 17), (94, 106)])), (22, ([(0, []), (1, []), (4, []), (2, [5]), (3, [5]), (5, []), (6, []), (7, [])], [(131, 136)]))], 140, [], []⟩
theorem es_wlk : EsOk Try.prog [E_vval, E_geom, E_vcap, E_pva, E_find, E_pix, E_mapg] [] := es_cons E_vval_ok (es_cons E_geom_ok (es_cons E_vcap_ok (es_cons E_pva_ok (es_cons E_find_ok (es_cons E_pix_ok (es_cons E_mapg_ok (es_nil)))))))
def Lt_wlk : Nat → LD := ldT [(0, ⟨[], [(0, 0)]⟩)]
noncomputable def M_wlk (f : Nat) (a : (List (SPT)) × SCp × Int) : Option (STr × Int) := (runX (C_wlk) Lt_wlk (Kret Try.prog [.cell 6 45, .tmp 7] [.g tSTr, .v (.int .i64)]) f [.code (bodyOf Try.f21)] (initX [.rd tSPT, .g tSCp, .c (.int .i64)] a) : Option (ResT [.g tSTr, .v (.int .i64)]))
theorem M_wlk_eq (f : Nat) (ts : List (SPT)) (root : SCp) (addr : Int) : M_wlk (f + 1) (ts, root, addr) =
    bif okM ts then bif !tabsB ts then some ((0, 0, 0, 0, [], []), 1) else bif !vcapB root then some ((0, 0, 0, 0, [], []), 5) else bif root.1 != 3 then some ((0, 0, 0, 0, [], []), 5) else bif root.2.2.2.2.2.1 != IntKind.i64.wrap ((geoS root.2.2.2.2.1).1 - 1) then some ((0, 0, 0, 0, [], []), 5) else bif !vaS (root.2.2.2.2.1, addr) then some ((0, 0, 0, 0, [], []), 6) else bif decide (root.2.2.2.2.2.1 ≥ 0) then bif len40n ts then bif !decide (ftS ts root.2.1 ≥ 0) then some ((0, 0, 0, 0, [], []), 13) else bif decide (0 ≤ ftS ts root.2.1) && decide (ftS ts root.2.1 < (↑ts.length : Int)) then bif (taS ts root.2.1).2.1 != root.2.2.2.2.1 then some ((0, 0, 0, 0, [], []), 13) else bif decide (0 ≤ ftS ts root.2.1) && decide (ftS ts root.2.1 < (↑ts.length : Int)) then bif (taS ts root.2.1).2.2.1 != root.2.2.2.2.2.1 then some ((0, 0, 0, 0, [], []), 13) else bif decide (0 ≤ ftS ts root.2.1) && decide (ftS ts root.2.1 < (↑ts.length : Int)) then bif len40n (taS ts root.2.1).2.2.2 then bif !decide (faS ts root.2.2.2.2.1 addr root.2.2.2.2.2.1 root.2.1 ≥ 0) then some ((0, 0, 0, 0, [], []), 13) else bif decide (0 ≤ ftS ts root.2.1) && decide (ftS ts root.2.1 < (↑ts.length : Int)) then bif decide (0 ≤ faS ts root.2.2.2.2.1 addr root.2.2.2.2.2.1 root.2.1) && decide (faS ts root.2.2.2.2.1 addr root.2.2.2.2.2.1 root.2.1 < (↑(List.length (taS ts root.2.1).2.2.2) : Int)) then bif decide (IntKind.i64.wrap (root.2.2.2.2.2.1 - 1) ≥ 0) then bif len40n ts then bif !decide (ftS ts (maS ts root.2.2.2.2.1 addr root.2.2.2.2.2.1 root.2.1).2.1 ≥ 0) then some ((0, 0, 0, 0, [], []), 13) else bif decide (0 ≤ ftS ts (maS ts root.2.2.2.2.1 addr root.2.2.2.2.2.1 root.2.1).2.1) && decide (ftS ts (maS ts root.2.2.2.2.1 addr root.2.2.2.2.2.1 root.2.1).2.1 < (↑ts.length : Int)) then bif (taS ts (maS ts root.2.2.2.2.1 addr root.2.2.2.2.2.1 root.2.1).2.1).2.1 != root.2.2.2.2.1 then some ((0, 0, 0, 0, [], []), 13) else bif decide (0 ≤ ftS ts (maS ts root.2.2.2.2.1 addr root.2.2.2.2.2.1 root.2.1).2.1) && decide (ftS ts (maS ts root.2.2.2.2.1 addr root.2.2.2.2.2.1 root.2.1).2.1 < (↑ts.length : Int)) then bif (taS ts (maS ts root.2.2.2.2.1 addr root.2.2.2.2.2.1 root.2.1).2.1).2.2.1 != IntKind.i64.wrap (root.2.2.2.2.2.1 - 1) then some ((0, 0, 0, 0, [], []), 13) else bif decide (0 ≤ ftS ts (maS ts root.2.2.2.2.1 addr root.2.2.2.2.2.1 root.2.1).2.1) && decide (ftS ts (maS ts root.2.2.2.2.1 addr root.2.2.2.2.2.1 root.2.1).2.1 < (↑ts.length : Int)) then bif len40n (taS ts (maS ts root.2.2.2.2.1 addr root.2.2.2.2.2.1 root.2.1).2.1).2.2.2 then bif !decide (faS ts root.2.2.2.2.1 addr (IntKind.i64.wrap (root.2.2.2.2.2.1 - 1)) (maS ts root.2.2.2.2.1 addr root.2.2.2.2.2.1 root.2.1).2.1 ≥ 0) then some ((0, 0, 0, 0, [], []), 13) else bif decide (0 ≤ ftS ts (maS ts root.2.2.2.2.1 addr root.2.2.2.2.2.1 root.2.1).2.1) && decide (ftS ts (maS ts root.2.2.2.2.1 addr root.2.2.2.2.2.1 root.2.1).2.1 < (↑ts.length : Int)) then bif decide (0 ≤ faS ts root.2.2.2.2.1 addr (IntKind.i64.wrap (root.2.2.2.2.2.1 - 1)) (maS ts root.2.2.2.2.1 addr root.2.2.2.2.2.1 root.2.1).2.1) && decide (faS ts root.2.2.2.2.1 addr (IntKind.i64.wrap (root.2.2.2.2.2.1 - 1)) (maS ts root.2.2.2.2.1 addr root.2.2.2.2.2.1 root.2.1).2.1 < (↑(List.length (taS ts (maS ts root.2.2.2.2.1 addr root.2.2.2.2.2.1 root.2.1).2.1).2.2.2) : Int)) then bif decide (IntKind.i64.wrap (IntKind.i64.wrap (root.2.2.2.2.2.1 - 1) - 1) ≥ 0) then bif len40n ts then bif !decide (ftS ts (maS ts root.2.2.2.2.1 addr (IntKind.i64.wrap (root.2.2.2.2.2.1 - 1)) (maS ts root.2.2.2.2.1 addr root.2.2.2.2.2.1 root.2.1).2.1).2.1 ≥ 0) then some ((0, 0, 0, 0, [], []), 13) else bif decide (0 ≤ ftS ts (maS ts root.2.2.2.2.1 addr (IntKind.i64.wrap (root.2.2.2.2.2.1 - 1)) (maS ts root.2.2.2.2.1 addr root.2.2.2.2.2.1 root.2.1).2.1).2.1) && decide (ftS ts (maS ts root.2.2.2.2.1 addr (IntKind.i64.wrap (root.2.2.2.2.2.1 - 1)) (maS ts root.2.2.2.2.1 addr root.2.2.2.2.2.1 root.2.1).2.1).2.1 < (↑ts.length : Int)) then bif (taS ts (maS ts root.2.2.2.2.1 addr (IntKind.i64.wrap (root.2.2.2.2.2.1 - 1)) (maS ts root.2.2.2.2.1 addr root.2.2.2.2.2.1 root.2.1).2.1).2.1).2.1 != root.2.2.2.2.1 then some ((0, 0, 0, 0, [], []), 13) else bif decide (0 ≤ ftS ts (maS ts root.2.2.2.2.1 addr (IntKind.i64.wrap (root.2.2.2.2.2.1 - 1)) (maS ts root.2.2.2.2.1 addr root.2.2.2.2.2.1 root.2.1).2.1).2.1) && decide (ftS ts (maS ts root.2.2.2.2.1 addr (IntKind.i64.wrap (root.2.2.2.2.2.1 - 1)) (maS ts root.2.2.2.2.1 addr root.2.2.2.2.2.1 root.2.1).2.1).2.1 < (↑ts.length : Int)) then bif (taS ts (maS ts root.2.2.2.2.1 addr (IntKind.i64.wrap (root.2.2.2.2.2.1 - 1)) (maS ts root.2.2.2.2.1 addr root.2.2.2.2.2.1 root.2.1).2.1).2.1).2.2.1 != IntKind.i64.wrap (IntKind.i64.wrap (root.2.2.2.2.2.1 - 1) - 1) then some ((0, 0, 0, 0, [], []), 13) else bif decide (0 ≤ ftS ts (maS ts root.2.2.2.2.1 addr (IntKind.i64.wrap (root.2.2.2.2.2.1 - 1)) (maS ts root.2.2.2.2.1 addr root.2.2.2.2.2.1 root.2.1).2.1).2.1) && decide (ftS ts (maS ts root.2.2.2.2.1 addr (IntKind.i64.wrap (root.2.2.2.2.2.1 - 1)) (maS ts root.2.2.2.2.1 addr root.2.2.2.2.2.1 root.2.1).2.1).2.1 < (↑ts.length : Int)) then bif len40n (taS ts (maS ts root.2.2.2.2.1 addr (IntKind.i64.wrap (root.2.2.2.2.2.1 - 1)) (maS ts root.2.2.2.2.1 addr root.2.2.2.2.2.1 root.2.1).2.1).2.1).2.2.2 then bif !decide (faS ts root.2.2.2.2.1 addr (IntKind.i64.wrap (IntKind.i64.wrap (root.2.2.2.2.2.1 - 1) - 1)) (maS ts root.2.2.2.2.1 addr (IntKind.i64.wrap (root.2.2.2.2.2.1 - 1)) (maS ts root.2.2.2.2.1 addr root.2.2.2.2.2.1 root.2.1).2.1).2.1 ≥ 0) then some ((0, 0, 0, 0, [], []), 13) else bif decide (0 ≤ ftS ts (maS ts root.2.2.2.2.1 addr (IntKind.i64.wrap (root.2.2.2.2.2.1 - 1)) (maS ts root.2.2.2.2.1 addr root.2.2.2.2.2.1 root.2.1).2.1).2.1) && decide (ftS ts (maS ts root.2.2.2.2.1 addr (IntKind.i64.wrap (root.2.2.2.2.2.1 - 1)) (maS ts root.2.2.2.2.1 addr root.2.2.2.2.2.1 root.2.1).2.1).2.1 < (↑ts.length : Int)) then bif decide (0 ≤ faS ts root.2.2.2.2.1 addr (IntKind.i64.wrap (IntKind.i64.wrap (root.2.2.2.2.2.1 - 1) - 1)) (maS ts root.2.2.2.2.1 addr (IntKind.i64.wrap (root.2.2.2.2.2.1 - 1)) (maS ts root.2.2.2.2.1 addr root.2.2.2.2.2.1 root.2.1).2.1).2.1) && decide (faS ts root.2.2.2.2.1 addr (IntKind.i64.wrap (IntKind.i64.wrap (root.2.2.2.2.2.1 - 1) - 1)) (maS ts root.2.2.2.2.1 addr (IntKind.i64.wrap (root.2.2.2.2.2.1 - 1)) (maS ts root.2.2.2.2.1 addr root.2.2.2.2.2.1 root.2.1).2.1).2.1 < (↑(List.length (taS ts (maS ts root.2.2.2.2.1 addr (IntKind.i64.wrap (root.2.2.2.2.2.1 - 1)) (maS ts root.2.2.2.2.1 addr root.2.2.2.2.2.1 root.2.1).2.1).2.1).2.2.2) : Int)) then bif decide (IntKind.i64.wrap (IntKind.i64.wrap (IntKind.i64.wrap (root.2.2.2.2.2.1 - 1) - 1) - 1) ≥ 0) then bif len40n ts then bif !decide (ftS ts (maS ts root.2.2.2.2.1 addr (IntKind.i64.wrap (IntKind.i64.wrap (root.2.2.2.2.2.1 - 1) - 1)) (maS ts root.2.2.2.2.1 addr (IntKind.i64.wrap (root.2.2.2.2.2.1 - 1)) (maS ts root.2.2.2.2.1 addr root.2.2.2.2.2.1 root.2.1).2.1).2.1).2.1 ≥ 0) then some ((0, 0, 0, 0, [], []), 13) else bif decide (0 ≤ ftS ts (maS ts root.2.2.2.2.1 addr (IntKind.i64.wrap (IntKind.i64.wrap (root.2.2.2.2.2.1 - 1) - 1)) (maS ts root.2.2.2.2.1 addr (IntKind.i64.wrap (root.2.2.2.2.2.1 - 1)) (maS ts root.2.2.2.2.1 addr root.2.2.2.2.2.1 root.2.1).2.1).2.1).2.1) && decide (ftS ts (maS ts root.2.2.2.2.1 addr (IntKind.i64.wrap (IntKind.i64.wrap (root.2.2.2.2.2.1 - 1) - 1)) (maS ts root.2.2.2.2.1 addr (IntKind.i64.wrap (root.2.2.2.2.2.1 - 1)) (maS ts root.2.2.2.2.1 addr root.2.2.2.2.2.1 root.2.1).2.1).2.1).2.1 < (↑ts.length : Int)) then bif (taS ts (maS ts root.2.2.2.2.1 addr (IntKind.i64.wrap (IntKind.i64.wrap (root.2.2.2.2.2.1 - 1) - 1)) (maS ts root.2.2.2.2.1 addr (IntKind.i64.wrap (root.2.2.2.2.2.1 - 1)) (maS ts root.2.2.2.2.1 addr root.2.2.2.2.2.1 root.2.1).2.1).2.1).2.1).2.1 != root.2.2.2.2.1 then some ((0, 0, 0, 0, [], []), 13) else bif decide (0 ≤ ftS ts (maS ts root.2.2.2.2.1 addr (IntKind.i64.wrap (IntKind.i64.wrap (root.2.2.2.2.2.1 - 1) - 1)) (maS ts root.2.2.2.2.1 addr (IntKind.i64.wrap (root.2.2.2.2.2.1 - 1)) (maS ts root.2.2.2.2.1 addr root.2.2.2.2.2.1 root.2.1).2.1).2.1).2.1) && decide (ftS ts (maS ts root.2.2.2.2.1 addr (IntKind.i64.wrap (IntKind.i64.wrap (root.2.2.2.2.2.1 - 1) - 1)) (maS ts root.2.2.2.2.1 addr (IntKind.i64.wrap (root.2.2.2.2.2.1 - 1)) (maS ts root.2.2.2.2.1 addr root.2.2.2.2.2.1 root.2.1).2.1).2.1).2.1 < (↑ts.length : Int)) then bif (taS ts (maS ts root.2.2.2.2.1 addr (IntKind.i64.wrap (IntKind.i64.wrap (root.2.2.2.2.2.1 - 1) - 1)) (maS ts root.2.2.2.2.1 addr (IntKind.i64.wrap (root.2.2.2.2.2.1 - 1)) (maS ts root.2.2.2.2.1 addr root.2.2.2.2.2.1 root.2.1).2.1).2.1).2.1).2.2.1 != IntKind.i64.wrap (IntKind.i64.wrap (IntKind.i64.wrap (root.2.2.2.2.2.1 - 1) - 1) - 1) then some ((0, 0, 0, 0, [], []), 13) else bif decide (0 ≤ ftS ts (maS ts root.2.2.2.2.1 addr (IntKind.i64.wrap (IntKind.i64.wrap (root.2.2.2.2.2.1 - 1) - 1)) (maS ts root.2.2.2.2.1 addr (IntKind.i64.wrap (root.2.2.2.2.2.1 - 1)) (maS ts root.2.2.2.2.1 addr root.2.2.2.2.2.1 root.2.1).2.1).2.1).2.1) && decide (ftS ts (maS ts root.2.2.2.2.1 addr (IntKind.i64.wrap (IntKind.i64.wrap (root.2.2.2.2.2.1 - 1) - 1)) (maS ts root.2.2.2.2.1 addr (IntKind.i64.wrap (root.2.2.2.2.2.1 - 1)) (maS ts root.2.2.2.2.1 addr root.2.2.2.2.2.1 root.2.1).2.1).2.1).2.1 < (↑ts.length : Int)) then bif len40n (taS ts (maS ts root.2.2.2.2.1 addr (IntKind.i64.wrap (IntKind.i64.wrap (root.2.2.2.2.2.1 - 1) - 1)) (maS ts root.2.2.2.2.1 addr (IntKind.i64.wrap (root.2.2.2.2.2.1 - 1)) (maS ts root.2.2.2.2.1 addr root.2.2.2.2.2.1 root.2.1).2.1).2.1).2.1).2.2.2 then bif !decide (faS ts root.2.2.2.2.1 addr (IntKind.i64.wrap (IntKind.i64.wrap (IntKind.i64.wrap (root.2.2.2.2.2.1 - 1) - 1) - 1)) (maS ts root.2.2.2.2.1 addr (IntKind.i64.wrap (IntKind.i64.wrap (root.2.2.2.2.2.1 - 1) - 1)) (maS ts root.2.2.2.2.1 addr (IntKind.i64.wrap (root.2.2.2.2.2.1 - 1)) (maS ts root.2.2.2.2.1 addr root.2.2.2.2.2.1 root.2.1).2.1).2.1).2.1 ≥ 0) then some ((0, 0, 0, 0, [], []), 13) else bif decide (0 ≤ ftS ts (maS ts root.2.2.2.2.1 addr (IntKind.i64.wrap (IntKind.i64.wrap (root.2.2.2.2.2.1 - 1) - 1)) (maS ts root.2.2.2.2.1 addr (IntKind.i64.wrap (root.2.2.2.2.2.1 - 1)) (maS ts root.2.2.2.2.1 addr root.2.2.2.2.2.1 root.2.1).2.1).2.1).2.1) && decide (ftS ts (maS ts root.2.2.2.2.1 addr (IntKind.i64.wrap (IntKind.i64.wrap (root.2.2.2.2.2.1 - 1) - 1)) (maS ts root.2.2.2.2.1 addr (IntKind.i64.wrap (root.2.2.2.2.2.1 - 1)) (maS ts root.2.2.2.2.1 addr root.2.2.2.2.2.1 root.2.1).2.1).2.1).2.1 < (↑ts.length : Int)) then bif decide (0 ≤ faS ts root.2.2.2.2.1 addr (IntKind.i64.wrap (IntKind.i64.wrap (IntKind.i64.wrap (root.2.2.2.2.2.1 - 1) - 1) - 1)) (maS ts root.2.2.2.2.1 addr (IntKind.i64.wrap (IntKind.i64.wrap (root.2.2.2.2.2.1 - 1) - 1)) (maS ts root.2.2.2.2.1 addr (IntKind.i64.wrap (root.2.2.2.2.2.1 - 1)) (maS ts root.2.2.2.2.1 addr root.2.2.2.2.2.1 root.2.1).2.1).2.1).2.1) && decide (faS ts root.2.2.2.2.1 addr (IntKind.i64.wrap (IntKind.i64.wrap (IntKind.i64.wrap (root.2.2.2.2.2.1 - 1) - 1) - 1)) (maS ts root.2.2.2.2.1 addr (IntKind.i64.wrap (IntKind.i64.wrap (root.2.2.2.2.2.1 - 1) - 1)) (maS ts root.2.2.2.2.1 addr (IntKind.i64.wrap (root.2.2.2.2.2.1 - 1)) (maS ts root.2.2.2.2.1 addr root.2.2.2.2.2.1 root.2.1).2.1).2.1).2.1 < (↑(List.length (taS ts (maS ts root.2.2.2.2.1 addr (IntKind.i64.wrap (IntKind.i64.wrap (root.2.2.2.2.2.1 - 1) - 1)) (maS ts root.2.2.2.2.1 addr (IntKind.i64.wrap (root.2.2.2.2.2.1 - 1)) (maS ts root.2.2.2.2.1 addr root.2.2.2.2.2.1 root.2.1).2.1).2.1).2.1).2.2.2) : Int)) then none else none else none else none else none else none else none else none else some ((root.2.1, addr.fdiv (2 ^ min (Int.toNat 12) IntKind.i64.bits), (maS ts root.2.2.2.2.1 addr (IntKind.i64.wrap (IntKind.i64.wrap (root.2.2.2.2.2.1 - 1) - 1)) (maS ts root.2.2.2.2.1 addr (IntKind.i64.wrap (root.2.2.2.2.2.1 - 1)) (maS ts root.2.2.2.2.1 addr root.2.2.2.2.2.1 root.2.1).2.1).2.1).2.1, (maS ts root.2.2.2.2.1 addr (IntKind.i64.wrap (IntKind.i64.wrap (root.2.2.2.2.2.1 - 1) - 1)) (maS ts root.2.2.2.2.1 addr (IntKind.i64.wrap (root.2.2.2.2.2.1 - 1)) (maS ts root.2.2.2.2.1 addr root.2.2.2.2.2.1 root.2.1).2.1).2.1).2.2.1, [(maS ts root.2.2.2.2.1 addr root.2.2.2.2.2.1 root.2.1).2.2.2] ++ [(maS ts root.2.2.2.2.1 addr (IntKind.i64.wrap (root.2.2.2.2.2.1 - 1)) (maS ts root.2.2.2.2.1 addr root.2.2.2.2.2.1 root.2.1).2.1).2.2.2] ++ [(maS ts root.2.2.2.2.1 addr (IntKind.i64.wrap (IntKind.i64.wrap (root.2.2.2.2.2.1 - 1) - 1)) (maS ts root.2.2.2.2.1 addr (IntKind.i64.wrap (root.2.2.2.2.2.1 - 1)) (maS ts root.2.2.2.2.1 addr root.2.2.2.2.2.1 root.2.1).2.1).2.1).2.2.2], [root.2.1] ++ [(maS ts root.2.2.2.2.1 addr root.2.2.2.2.2.1 root.2.1).2.1] ++ [(maS ts root.2.2.2.2.1 addr (IntKind.i64.wrap (root.2.2.2.2.2.1 - 1)) (maS ts root.2.2.2.2.1 addr root.2.2.2.2.2.1 root.2.1).2.1).2.1]), 0) else none else none else none else none else none else none else none else some ((root.2.1, addr.fdiv (2 ^ min (Int.toNat 12) IntKind.i64.bits), (maS ts root.2.2.2.2.1 addr (IntKind.i64.wrap (root.2.2.2.2.2.1 - 1)) (maS ts root.2.2.2.2.1 addr root.2.2.2.2.2.1 root.2.1).2.1).2.1, (maS ts root.2.2.2.2.1 addr (IntKind.i64.wrap (root.2.2.2.2.2.1 - 1)) (maS ts root.2.2.2.2.1 addr root.2.2.2.2.2.1 root.2.1).2.1).2.2.1, [(maS ts root.2.2.2.2.1 addr root.2.2.2.2.2.1 root.2.1).2.2.2] ++ [(maS ts root.2.2.2.2.1 addr (IntKind.i64.wrap (root.2.2.2.2.2.1 - 1)) (maS ts root.2.2.2.2.1 addr root.2.2.2.2.2.1 root.2.1).2.1).2.2.2], [root.2.1] ++ [(maS ts root.2.2.2.2.1 addr root.2.2.2.2.2.1 root.2.1).2.1]), 0) else none else none else none else none else none else none else none else some ((root.2.1, addr.fdiv (2 ^ min (Int.toNat 12) IntKind.i64.bits), (maS ts root.2.2.2.2.1 addr root.2.2.2.2.2.1 root.2.1).2.1, (maS ts root.2.2.2.2.1 addr root.2.2.2.2.2.1 root.2.1).2.2.1, [(maS ts root.2.2.2.2.1 addr root.2.2.2.2.2.1 root.2.1).2.2.2], [root.2.1]), 0) else none else none else none else none else none else none else none else some ((root.2.1, addr.fdiv (2 ^ min (Int.toNat 12) IntKind.i64.bits), 0, 0, [], []), 0) else none := by kernel_rfl
noncomputable def F_wlk : ((List (SPT)) × SCp × Int) → STr × Int
  | (ts, root, addr) => bif !tabsB ts then ((0, 0, 0, 0, [], []), 1) else bif !vcapB root then ((0, 0, 0, 0, [], []), 5) else bif root.1 != 3 then ((0, 0, 0, 0, [], []), 5) else bif root.2.2.2.2.2.1 != IntKind.i64.wrap ((geoS root.2.2.2.2.1).1 - 1) then ((0, 0, 0, 0, [], []), 5) else bif !vaS (root.2.2.2.2.1, addr) then ((0, 0, 0, 0, [], []), 6) else bif decide (root.2.2.2.2.2.1 ≥ 0) then bif !decide (ftS ts root.2.1 ≥ 0) then ((0, 0, 0, 0, [], []), 13) else bif (taS ts root.2.1).2.1 != root.2.2.2.2.1 then ((0, 0, 0, 0, [], []), 13) else bif (taS ts root.2.1).2.2.1 != root.2.2.2.2.2.1 then ((0, 0, 0, 0, [], []), 13) else bif !decide (faS ts root.2.2.2.2.1 addr root.2.2.2.2.2.1 root.2.1 ≥ 0) then ((0, 0, 0, 0, [], []), 13) else bif decide (IntKind.i64.wrap (root.2.2.2.2.2.1 - 1) ≥ 0) then bif !decide (ftS ts (maS ts root.2.2.2.2.1 addr root.2.2.2.2.2.1 root.2.1).2.1 ≥ 0) then ((0, 0, 0, 0, [], []), 13) else bif (taS ts (maS ts root.2.2.2.2.1 addr root.2.2.2.2.2.1 root.2.1).2.1).2.1 != root.2.2.2.2.1 then ((0, 0, 0, 0, [], []), 13) else bif (taS ts (maS ts root.2.2.2.2.1 addr root.2.2.2.2.2.1 root.2.1).2.1).2.2.1 != IntKind.i64.wrap (root.2.2.2.2.2.1 - 1) then ((0, 0, 0, 0, [], []), 13) else bif !decide (faS ts root.2.2.2.2.1 addr (IntKind.i64.wrap (root.2.2.2.2.2.1 - 1)) (maS ts root.2.2.2.2.1 addr root.2.2.2.2.2.1 root.2.1).2.1 ≥ 0) then ((0, 0, 0, 0, [], []), 13) else bif decide (IntKind.i64.wrap (IntKind.i64.wrap (root.2.2.2.2.2.1 - 1) - 1) ≥ 0) then bif !decide (ftS ts (maS ts root.2.2.2.2.1 addr (IntKind.i64.wrap (root.2.2.2.2.2.1 - 1)) (maS ts root.2.2.2.2.1 addr root.2.2.2.2.2.1 root.2.1).2.1).2.1 ≥ 0) then ((0, 0, 0, 0, [], []), 13) else bif (taS ts (maS ts root.2.2.2.2.1 addr (IntKind.i64.wrap (root.2.2.2.2.2.1 - 1)) (maS ts root.2.2.2.2.1 addr root.2.2.2.2.2.1 root.2.1).2.1).2.1).2.1 != root.2.2.2.2.1 then ((0, 0, 0, 0, [], []), 13) else bif (taS ts (maS ts root.2.2.2.2.1 addr (IntKind.i64.wrap (root.2.2.2.2.2.1 - 1)) (maS ts root.2.2.2.2.1 addr root.2.2.2.2.2.1 root.2.1).2.1).2.1).2.2.1 != IntKind.i64.wrap (IntKind.i64.wrap (root.2.2.2.2.2.1 - 1) - 1) then ((0, 0, 0, 0, [], []), 13) else bif !decide (faS ts root.2.2.2.2.1 addr (IntKind.i64.wrap (IntKind.i64.wrap (root.2.2.2.2.2.1 - 1) - 1)) (maS ts root.2.2.2.2.1 addr (IntKind.i64.wrap (root.2.2.2.2.2.1 - 1)) (maS ts root.2.2.2.2.1 addr root.2.2.2.2.2.1 root.2.1).2.1).2.1 ≥ 0) then ((0, 0, 0, 0, [], []), 13) else bif decide (IntKind.i64.wrap (IntKind.i64.wrap (IntKind.i64.wrap (root.2.2.2.2.2.1 - 1) - 1) - 1) ≥ 0) then bif !decide (ftS ts (maS ts root.2.2.2.2.1 addr (IntKind.i64.wrap (IntKind.i64.wrap (root.2.2.2.2.2.1 - 1) - 1)) (maS ts root.2.2.2.2.1 addr (IntKind.i64.wrap (root.2.2.2.2.2.1 - 1)) (maS ts root.2.2.2.2.1 addr root.2.2.2.2.2.1 root.2.1).2.1).2.1).2.1 ≥ 0) then ((0, 0, 0, 0, [], []), 13) else bif (taS ts (maS ts root.2.2.2.2.1 addr (IntKind.i64.wrap (IntKind.i64.wrap (root.2.2.2.2.2.1 - 1) - 1)) (maS ts root.2.2.2.2.1 addr (IntKind.i64.wrap (root.2.2.2.2.2.1 - 1)) (maS ts root.2.2.2.2.1 addr root.2.2.2.2.2.1 root.2.1).2.1).2.1).2.1).2.1 != root.2.2.2.2.1 then ((0, 0, 0, 0, [], []), 13) else bif (taS ts (maS ts root.2.2.2.2.1 addr (IntKind.i64.wrap (IntKind.i64.wrap (root.2.2.2.2.2.1 - 1) - 1)) (maS ts root.2.2.2.2.1 addr (IntKind.i64.wrap (root.2.2.2.2.2.1 - 1)) (maS ts root.2.2.2.2.1 addr root.2.2.2.2.2.1 root.2.1).2.1).2.1).2.1).2.2.1 != IntKind.i64.wrap (IntKind.i64.wrap (IntKind.i64.wrap (root.2.2.2.2.2.1 - 1) - 1) - 1) then ((0, 0, 0, 0, [], []), 13) else ((0, 0, 0, 0, [], []), 13) else ((root.2.1, addr.fdiv (2 ^ min (Int.toNat 12) IntKind.i64.bits), (maS ts root.2.2.2.2.1 addr (IntKind.i64.wrap (IntKind.i64.wrap (root.2.2.2.2.2.1 - 1) - 1)) (maS ts root.2.2.2.2.1 addr (IntKind.i64.wrap (root.2.2.2.2.2.1 - 1)) (maS ts root.2.2.2.2.1 addr root.2.2.2.2.2.1 root.2.1).2.1).2.1).2.1, (maS ts root.2.2.2.2.1 addr (IntKind.i64.wrap (IntKind.i64.wrap (root.2.2.2.2.2.1 - 1) - 1)) (maS ts root.2.2.2.2.1 addr (IntKind.i64.wrap (root.2.2.2.2.2.1 - 1)) (maS ts root.2.2.2.2.1 addr root.2.2.2.2.2.1 root.2.1).2.1).2.1).2.2.1, [(maS ts root.2.2.2.2.1 addr root.2.2.2.2.2.1 root.2.1).2.2.2] ++ [(maS ts root.2.2.2.2.1 addr (IntKind.i64.wrap (root.2.2.2.2.2.1 - 1)) (maS ts root.2.2.2.2.1 addr root.2.2.2.2.2.1 root.2.1).2.1).2.2.2] ++ [(maS ts root.2.2.2.2.1 addr (IntKind.i64.wrap (IntKind.i64.wrap (root.2.2.2.2.2.1 - 1) - 1)) (maS ts root.2.2.2.2.1 addr (IntKind.i64.wrap (root.2.2.2.2.2.1 - 1)) (maS ts root.2.2.2.2.1 addr root.2.2.2.2.2.1 root.2.1).2.1).2.1).2.2.2], [root.2.1] ++ [(maS ts root.2.2.2.2.1 addr root.2.2.2.2.2.1 root.2.1).2.1] ++ [(maS ts root.2.2.2.2.1 addr (IntKind.i64.wrap (root.2.2.2.2.2.1 - 1)) (maS ts root.2.2.2.2.1 addr root.2.2.2.2.2.1 root.2.1).2.1).2.1]), 0) else ((root.2.1, addr.fdiv (2 ^ min (Int.toNat 12) IntKind.i64.bits), (maS ts root.2.2.2.2.1 addr (IntKind.i64.wrap (root.2.2.2.2.2.1 - 1)) (maS ts root.2.2.2.2.1 addr root.2.2.2.2.2.1 root.2.1).2.1).2.1, (maS ts root.2.2.2.2.1 addr (IntKind.i64.wrap (root.2.2.2.2.2.1 - 1)) (maS ts root.2.2.2.2.1 addr root.2.2.2.2.2.1 root.2.1).2.1).2.2.1, [(maS ts root.2.2.2.2.1 addr root.2.2.2.2.2.1 root.2.1).2.2.2] ++ [(maS ts root.2.2.2.2.1 addr (IntKind.i64.wrap (root.2.2.2.2.2.1 - 1)) (maS ts root.2.2.2.2.1 addr root.2.2.2.2.2.1 root.2.1).2.1).2.2.2], [root.2.1] ++ [(maS ts root.2.2.2.2.1 addr root.2.2.2.2.2.1 root.2.1).2.1]), 0) else ((root.2.1, addr.fdiv (2 ^ min (Int.toNat 12) IntKind.i64.bits), (maS ts root.2.2.2.2.1 addr root.2.2.2.2.2.1 root.2.1).2.1, (maS ts root.2.2.2.2.1 addr root.2.2.2.2.2.1 root.2.1).2.2.1, [(maS ts root.2.2.2.2.1 addr root.2.2.2.2.2.1 root.2.1).2.2.2], [root.2.1]), 0) else ((root.2.1, addr.fdiv (2 ^ min (Int.toNat 12) IntKind.i64.bits), 0, 0, [], []), 0)
noncomputable def P_wlk : ((List (SPT)) × SCp × Int) → Bool
  | (ts, root, addr) => okM ts && bif !tabsB ts then true else bif !vcapB root then true else bif root.1 != 3 then true else bif root.2.2.2.2.2.1 != IntKind.i64.wrap ((geoS root.2.2.2.2.1).1 - 1) then true else bif !vaS (root.2.2.2.2.1, addr) then true else bif decide (root.2.2.2.2.2.1 ≥ 0) then len40n ts && bif !decide (ftS ts root.2.1 ≥ 0) then true else decide (0 ≤ ftS ts root.2.1) && decide (ftS ts root.2.1 < (↑ts.length : Int)) && bif (taS ts root.2.1).2.1 != root.2.2.2.2.1 then true else decide (0 ≤ ftS ts root.2.1) && decide (ftS ts root.2.1 < (↑ts.length : Int)) && bif (taS ts root.2.1).2.2.1 != root.2.2.2.2.2.1 then true else decide (0 ≤ ftS ts root.2.1) && decide (ftS ts root.2.1 < (↑ts.length : Int)) && (len40n (taS ts root.2.1).2.2.2 && bif !decide (faS ts root.2.2.2.2.1 addr root.2.2.2.2.2.1 root.2.1 ≥ 0) then true else decide (0 ≤ ftS ts root.2.1) && decide (ftS ts root.2.1 < (↑ts.length : Int)) && (decide (0 ≤ faS ts root.2.2.2.2.1 addr root.2.2.2.2.2.1 root.2.1) && decide (faS ts root.2.2.2.2.1 addr root.2.2.2.2.2.1 root.2.1 < (↑(List.length (taS ts root.2.1).2.2.2) : Int)) && bif decide (IntKind.i64.wrap (root.2.2.2.2.2.1 - 1) ≥ 0) then len40n ts && bif !decide (ftS ts (maS ts root.2.2.2.2.1 addr root.2.2.2.2.2.1 root.2.1).2.1 ≥ 0) then true else decide (0 ≤ ftS ts (maS ts root.2.2.2.2.1 addr root.2.2.2.2.2.1 root.2.1).2.1) && decide (ftS ts (maS ts root.2.2.2.2.1 addr root.2.2.2.2.2.1 root.2.1).2.1 < (↑ts.length : Int)) && bif (taS ts (maS ts root.2.2.2.2.1 addr root.2.2.2.2.2.1 root.2.1).2.1).2.1 != root.2.2.2.2.1 then true else decide (0 ≤ ftS ts (maS ts root.2.2.2.2.1 addr root.2.2.2.2.2.1 root.2.1).2.1) && decide (ftS ts (maS ts root.2.2.2.2.1 addr root.2.2.2.2.2.1 root.2.1).2.1 < (↑ts.length : Int)) && bif (taS ts (maS ts root.2.2.2.2.1 addr root.2.2.2.2.2.1 root.2.1).2.1).2.2.1 != IntKind.i64.wrap (root.2.2.2.2.2.1 - 1) then true else decide (0 ≤ ftS ts (maS ts root.2.2.2.2.1 addr root.2.2.2.2.2.1 root.2.1).2.1) && decide (ftS ts (maS ts root.2.2.2.2.1 addr root.2.2.2.2.2.1 root.2.1).2.1 < (↑ts.length : Int)) && (len40n (taS ts (maS ts root.2.2.2.2.1 addr root.2.2.2.2.2.1 root.2.1).2.1).2.2.2 && bif !decide (faS ts root.2.2.2.2.1 addr (IntKind.i64.wrap (root.2.2.2.2.2.1 - 1)) (maS ts root.2.2.2.2.1 addr root.2.2.2.2.2.1 root.2.1).2.1 ≥ 0) then true else decide (0 ≤ ftS ts (maS ts root.2.2.2.2.1 addr root.2.2.2.2.2.1 root.2.1).2.1) && decide (ftS ts (maS ts root.2.2.2.2.1 addr root.2.2.2.2.2.1 root.2.1).2.1 < (↑ts.length : Int)) && (decide (0 ≤ faS ts root.2.2.2.2.1 addr (IntKind.i64.wrap (root.2.2.2.2.2.1 - 1)) (maS ts root.2.2.2.2.1 addr root.2.2.2.2.2.1 root.2.1).2.1) && decide (faS ts root.2.2.2.2.1 addr (IntKind.i64.wrap (root.2.2.2.2.2.1 - 1)) (maS ts root.2.2.2.2.1 addr root.2.2.2.2.2.1 root.2.1).2.1 < (↑(List.length (taS ts (maS ts root.2.2.2.2.1 addr root.2.2.2.2.2.1 root.2.1).2.1).2.2.2) : Int)) && bif decide (IntKind.i64.wrap (IntKind.i64.wrap (root.2.2.2.2.2.1 - 1) - 1) ≥ 0) then len40n ts && bif !decide (ftS ts (maS ts root.2.2.2.2.1 addr (IntKind.i64.wrap (root.2.2.2.2.2.1 - 1)) (maS ts root.2.2.2.2.1 addr root.2.2.2.2.2.1 root.2.1).2.1).2.1 ≥ 0) then true else decide (0 ≤ ftS ts (maS ts root.2.2.2.2.1 addr (IntKind.i64.wrap (root.2.2.2.2.2.1 - 1)) (maS ts root.2.2.2.2.1 addr root.2.2.2.2.2.1 root.2.1).2.1).2.1) && decide (ftS ts (maS ts root.2.2.2.2.1 addr (IntKind.i64.wrap (root.2.2.2.2.2.1 - 1)) (maS ts root.2.2.2.2.1 addr root.2.2.2.2.2.1 root.2.1).2.1).2.1 < (↑ts.length : Int)) && bif (taS ts (maS ts root.2.2.2.2.1 addr (IntKind.i64.wrap (root.2.2.2.2.2.1 - 1)) (maS ts root.2.2.2.2.1 addr root.2.2.2.2.2.1 root.2.1).2.1).2.1).2.1 != root.2.2.2.2.1 then true else decide (0 ≤ ftS ts (maS ts root.2.2.2.2.1 addr (IntKind.i64.wrap (root.2.2.2.2.2.1 - 1)) (maS ts root.2.2.2.2.1 addr root.2.2.2.2.2.1 root.2.1).2.1).2.1) && decide (ftS ts (maS ts root.2.2.2.2.1 addr (IntKind.i64.wrap (root.2.2.2.2.2.1 - 1)) (maS ts root.2.2.2.2.1 addr root.2.2.2.2.2.1 root.2.1).2.1).2.1 < (↑ts.length : Int)) && bif (taS ts (maS ts root.2.2.2.2.1 addr (IntKind.i64.wrap (root.2.2.2.2.2.1 - 1)) (maS ts root.2.2.2.2.1 addr root.2.2.2.2.2.1 root.2.1).2.1).2.1).2.2.1 != IntKind.i64.wrap (IntKind.i64.wrap (root.2.2.2.2.2.1 - 1) - 1) then true else decide (0 ≤ ftS ts (maS ts root.2.2.2.2.1 addr (IntKind.i64.wrap (root.2.2.2.2.2.1 - 1)) (maS ts root.2.2.2.2.1 addr root.2.2.2.2.2.1 root.2.1).2.1).2.1) && decide (ftS ts (maS ts root.2.2.2.2.1 addr (IntKind.i64.wrap (root.2.2.2.2.2.1 - 1)) (maS ts root.2.2.2.2.1 addr root.2.2.2.2.2.1 root.2.1).2.1).2.1 < (↑ts.length : Int)) && (len40n (taS ts (maS ts root.2.2.2.2.1 addr (IntKind.i64.wrap (root.2.2.2.2.2.1 - 1)) (maS ts root.2.2.2.2.1 addr root.2.2.2.2.2.1 root.2.1).2.1).2.1).2.2.2 && bif !decide (faS ts root.2.2.2.2.1 addr (IntKind.i64.wrap (IntKind.i64.wrap (root.2.2.2.2.2.1 - 1) - 1)) (maS ts root.2.2.2.2.1 addr (IntKind.i64.wrap (root.2.2.2.2.2.1 - 1)) (maS ts root.2.2.2.2.1 addr root.2.2.2.2.2.1 root.2.1).2.1).2.1 ≥ 0) then true else decide (0 ≤ ftS ts (maS ts root.2.2.2.2.1 addr (IntKind.i64.wrap (root.2.2.2.2.2.1 - 1)) (maS ts root.2.2.2.2.1 addr root.2.2.2.2.2.1 root.2.1).2.1).2.1) && decide (ftS ts (maS ts root.2.2.2.2.1 addr (IntKind.i64.wrap (root.2.2.2.2.2.1 - 1)) (maS ts root.2.2.2.2.1 addr root.2.2.2.2.2.1 root.2.1).2.1).2.1 < (↑ts.length : Int)) && (decide (0 ≤ faS ts root.2.2.2.2.1 addr (IntKind.i64.wrap (IntKind.i64.wrap (root.2.2.2.2.2.1 - 1) - 1)) (maS ts root.2.2.2.2.1 addr (IntKind.i64.wrap (root.2.2.2.2.2.1 - 1)) (maS ts root.2.2.2.2.1 addr root.2.2.2.2.2.1 root.2.1).2.1).2.1) && decide (faS ts root.2.2.2.2.1 addr (IntKind.i64.wrap (IntKind.i64.wrap (root.2.2.2.2.2.1 - 1) - 1)) (maS ts root.2.2.2.2.1 addr (IntKind.i64.wrap (root.2.2.2.2.2.1 - 1)) (maS ts root.2.2.2.2.1 addr root.2.2.2.2.2.1 root.2.1).2.1).2.1 < (↑(List.length (taS ts (maS ts root.2.2.2.2.1 addr (IntKind.i64.wrap (root.2.2.2.2.2.1 - 1)) (maS ts root.2.2.2.2.1 addr root.2.2.2.2.2.1 root.2.1).2.1).2.1).2.2.2) : Int)) && bif decide (IntKind.i64.wrap (IntKind.i64.wrap (IntKind.i64.wrap (root.2.2.2.2.2.1 - 1) - 1) - 1) ≥ 0) then len40n ts && bif !decide (ftS ts (maS ts root.2.2.2.2.1 addr (IntKind.i64.wrap (IntKind.i64.wrap (root.2.2.2.2.2.1 - 1) - 1)) (maS ts root.2.2.2.2.1 addr (IntKind.i64.wrap (root.2.2.2.2.2.1 - 1)) (maS ts root.2.2.2.2.1 addr root.2.2.2.2.2.1 root.2.1).2.1).2.1).2.1 ≥ 0) then true else decide (0 ≤ ftS ts (maS ts root.2.2.2.2.1 addr (IntKind.i64.wrap (IntKind.i64.wrap (root.2.2.2.2.2.1 - 1) - 1)) (maS ts root.2.2.2.2.1 addr (IntKind.i64.wrap (root.2.2.2.2.2.1 - 1)) (maS ts root.2.2.2.2.1 addr root.2.2.2.2.2.1 root.2.1).2.1).2.1).2.1) && decide (ftS ts (maS ts root.2.2.2.2.1 addr (IntKind.i64.wrap (IntKind.i64.wrap (root.2.2.2.2.2.1 - 1) - 1)) (maS ts root.2.2.2.2.1 addr (IntKind.i64.wrap (root.2.2.2.2.2.1 - 1)) (maS ts root.2.2.2.2.1 addr root.2.2.2.2.2.1 root.2.1).2.1).2.1).2.1 < (↑ts.length : Int)) && bif (taS ts (maS ts root.2.2.2.2.1 addr (IntKind.i64.wrap (IntKind.i64.wrap (root.2.2.2.2.2.1 - 1) - 1)) (maS ts root.2.2.2.2.1 addr (IntKind.i64.wrap (root.2.2.2.2.2.1 - 1)) (maS ts root.2.2.2.2.1 addr root.2.2.2.2.2.1 root.2.1).2.1).2.1).2.1).2.1 != root.2.2.2.2.1 then true else decide (0 ≤ ftS ts (maS ts root.2.2.2.2.1 addr (IntKind.i64.wrap (IntKind.i64.wrap (root.2.2.2.2.2.1 - 1) - 1)) (maS ts root.2.2.2.2.1 addr (IntKind.i64.wrap (root.2.2.2.2.2.1 - 1)) (maS ts root.2.2.2.2.1 addr root.2.2.2.2.2.1 root.2.1).2.1).2.1).2.1) && decide (ftS ts (maS ts root.2.2.2.2.1 addr (IntKind.i64.wrap (IntKind.i64.wrap (root.2.2.2.2.2.1 - 1) - 1)) (maS ts root.2.2.2.2.1 addr (IntKind.i64.wrap (root.2.2.2.2.2.1 - 1)) (maS ts root.2.2.2.2.1 addr root.2.2.2.2.2.1 root.2.1).2.1).2.1).2.1 < (↑ts.length : Int)) && bif (taS ts (maS ts root.2.2.2.2.1 addr (IntKind.i64.wrap (IntKind.i64.wrap (root.2.2.2.2.2.1 - 1) - 1)) (maS ts root.2.2.2.2.1 addr (IntKind.i64.wrap (root.2.2.2.2.2.1 - 1)) (maS ts root.2.2.2.2.1 addr root.2.2.2.2.2.1 root.2.1).2.1).2.1).2.1).2.2.1 != IntKind.i64.wrap (IntKind.i64.wrap (IntKind.i64.wrap (root.2.2.2.2.2.1 - 1) - 1) - 1) then true else decide (0 ≤ ftS ts (maS ts root.2.2.2.2.1 addr (IntKind.i64.wrap (IntKind.i64.wrap (root.2.2.2.2.2.1 - 1) - 1)) (maS ts root.2.2.2.2.1 addr (IntKind.i64.wrap (root.2.2.2.2.2.1 - 1)) (maS ts root.2.2.2.2.1 addr root.2.2.2.2.2.1 root.2.1).2.1).2.1).2.1) && decide (ftS ts (maS ts root.2.2.2.2.1 addr (IntKind.i64.wrap (IntKind.i64.wrap (root.2.2.2.2.2.1 - 1) - 1)) (maS ts root.2.2.2.2.1 addr (IntKind.i64.wrap (root.2.2.2.2.2.1 - 1)) (maS ts root.2.2.2.2.1 addr root.2.2.2.2.2.1 root.2.1).2.1).2.1).2.1 < (↑ts.length : Int)) && (len40n (taS ts (maS ts root.2.2.2.2.1 addr (IntKind.i64.wrap (IntKind.i64.wrap (root.2.2.2.2.2.1 - 1) - 1)) (maS ts root.2.2.2.2.1 addr (IntKind.i64.wrap (root.2.2.2.2.2.1 - 1)) (maS ts root.2.2.2.2.1 addr root.2.2.2.2.2.1 root.2.1).2.1).2.1).2.1).2.2.2 && !decide (faS ts root.2.2.2.2.1 addr (IntKind.i64.wrap (IntKind.i64.wrap (IntKind.i64.wrap (root.2.2.2.2.2.1 - 1) - 1) - 1)) (maS ts root.2.2.2.2.1 addr (IntKind.i64.wrap (IntKind.i64.wrap (root.2.2.2.2.2.1 - 1) - 1)) (maS ts root.2.2.2.2.1 addr (IntKind.i64.wrap (root.2.2.2.2.2.1 - 1)) (maS ts root.2.2.2.2.1 addr root.2.2.2.2.2.1 root.2.1).2.1).2.1).2.1 ≥ 0)) else true)) else true)) else true)) else true
theorem wlk_auto : ∀ a : (List (SPT)) × SCp × Int, Rns (fun f => M_wlk f a) (P_wlk a) (F_wlk a)
  | (ts, root, addr) => ev_step (fun f => M_wlk_eq f _ _ _) (evx_chk (ev_bif ev_some (ev_bif ev_some (ev_bif ev_some (ev_bif ev_some (ev_bif ev_some (ev_bif (evx_chk (ev_bif ev_some (evx_chk (ev_bif ev_some (evx_chk (ev_bif ev_some (evx_chk (evx_chk (ev_bif ev_some (evx_chk (evx_chk (ev_bif (evx_chk (ev_bif ev_some (evx_chk (ev_bif ev_some (evx_chk (ev_bif ev_some (evx_chk (evx_chk (ev_bif ev_some (evx_chk (evx_chk (ev_bif (evx_chk (ev_bif ev_some (evx_chk (ev_bif ev_some (evx_chk (ev_bif ev_some (evx_chk (evx_chk (ev_bif ev_some (evx_chk (evx_chk (ev_bif (evx_chk (ev_bif ev_some (evx_chk (ev_bif ev_some (evx_chk (ev_bif ev_some (evx_chk (evx_chk (evx_chk1 ev_some))))))))) ev_some)))))))))))) ev_some)))))))))))) ev_some)))))))))))) ev_some)))))))
noncomputable def F_rwlk : ((List (SPT)) × SCp × Int) → STr × Int
  | (ts, root, addr) => bif !tabsB ts then ((0, 0, 0, 0, [], []), 1) else bif !vcapB root then ((0, 0, 0, 0, [], []), 5) else bif root.1 != 3 then ((0, 0, 0, 0, [], []), 5) else bif root.2.2.2.2.2.1 != IntKind.i64.wrap ((geoS root.2.2.2.2.1).1 - 1) then ((0, 0, 0, 0, [], []), 5) else bif !vaS (root.2.2.2.2.1, addr) then ((0, 0, 0, 0, [], []), 6) else bif decide (root.2.2.2.2.2.1 ≥ 0) then bif decide (ftS ts root.2.1 < 0) then ((0, 0, 0, 0, [], []), 13) else bif (taS ts root.2.1).2.1 != root.2.2.2.2.1 then ((0, 0, 0, 0, [], []), 13) else bif (taS ts root.2.1).2.2.1 != root.2.2.2.2.2.1 then ((0, 0, 0, 0, [], []), 13) else bif decide (faS ts root.2.2.2.2.1 addr root.2.2.2.2.2.1 root.2.1 < 0) then ((0, 0, 0, 0, [], []), 13) else bif decide (IntKind.i64.wrap (root.2.2.2.2.2.1 - 1) ≥ 0) then bif decide (ftS ts (maS ts root.2.2.2.2.1 addr root.2.2.2.2.2.1 root.2.1).2.1 < 0) then ((0, 0, 0, 0, [], []), 13) else bif (taS ts (maS ts root.2.2.2.2.1 addr root.2.2.2.2.2.1 root.2.1).2.1).2.1 != root.2.2.2.2.1 then ((0, 0, 0, 0, [], []), 13) else bif (taS ts (maS ts root.2.2.2.2.1 addr root.2.2.2.2.2.1 root.2.1).2.1).2.2.1 != IntKind.i64.wrap (root.2.2.2.2.2.1 - 1) then ((0, 0, 0, 0, [], []), 13) else bif decide (faS ts root.2.2.2.2.1 addr (IntKind.i64.wrap (root.2.2.2.2.2.1 - 1)) (maS ts root.2.2.2.2.1 addr root.2.2.2.2.2.1 root.2.1).2.1 < 0) then ((0, 0, 0, 0, [], []), 13) else bif decide (IntKind.i64.wrap (IntKind.i64.wrap (root.2.2.2.2.2.1 - 1) - 1) ≥ 0) then bif decide (ftS ts (maS ts root.2.2.2.2.1 addr (IntKind.i64.wrap (root.2.2.2.2.2.1 - 1)) (maS ts root.2.2.2.2.1 addr root.2.2.2.2.2.1 root.2.1).2.1).2.1 < 0) then ((0, 0, 0, 0, [], []), 13) else bif (taS ts (maS ts root.2.2.2.2.1 addr (IntKind.i64.wrap (root.2.2.2.2.2.1 - 1)) (maS ts root.2.2.2.2.1 addr root.2.2.2.2.2.1 root.2.1).2.1).2.1).2.1 != root.2.2.2.2.1 then ((0, 0, 0, 0, [], []), 13) else bif (taS ts (maS ts root.2.2.2.2.1 addr (IntKind.i64.wrap (root.2.2.2.2.2.1 - 1)) (maS ts root.2.2.2.2.1 addr root.2.2.2.2.2.1 root.2.1).2.1).2.1).2.2.1 != IntKind.i64.wrap (IntKind.i64.wrap (root.2.2.2.2.2.1 - 1) - 1) then ((0, 0, 0, 0, [], []), 13) else bif decide (faS ts root.2.2.2.2.1 addr (IntKind.i64.wrap (IntKind.i64.wrap (root.2.2.2.2.2.1 - 1) - 1)) (maS ts root.2.2.2.2.1 addr (IntKind.i64.wrap (root.2.2.2.2.2.1 - 1)) (maS ts root.2.2.2.2.1 addr root.2.2.2.2.2.1 root.2.1).2.1).2.1 < 0) then ((0, 0, 0, 0, [], []), 13) else bif decide (IntKind.i64.wrap (IntKind.i64.wrap (IntKind.i64.wrap (root.2.2.2.2.2.1 - 1) - 1) - 1) ≥ 0) then bif decide (ftS ts (maS ts root.2.2.2.2.1 addr (IntKind.i64.wrap (IntKind.i64.wrap (root.2.2.2.2.2.1 - 1) - 1)) (maS ts root.2.2.2.2.1 addr (IntKind.i64.wrap (root.2.2.2.2.2.1 - 1)) (maS ts root.2.2.2.2.1 addr root.2.2.2.2.2.1 root.2.1).2.1).2.1).2.1 < 0) then ((0, 0, 0, 0, [], []), 13) else bif (taS ts (maS ts root.2.2.2.2.1 addr (IntKind.i64.wrap (IntKind.i64.wrap (root.2.2.2.2.2.1 - 1) - 1)) (maS ts root.2.2.2.2.1 addr (IntKind.i64.wrap (root.2.2.2.2.2.1 - 1)) (maS ts root.2.2.2.2.1 addr root.2.2.2.2.2.1 root.2.1).2.1).2.1).2.1).2.1 != root.2.2.2.2.1 then ((0, 0, 0, 0, [], []), 13) else bif (taS ts (maS ts root.2.2.2.2.1 addr (IntKind.i64.wrap (IntKind.i64.wrap (root.2.2.2.2.2.1 - 1) - 1)) (maS ts root.2.2.2.2.1 addr (IntKind.i64.wrap (root.2.2.2.2.2.1 - 1)) (maS ts root.2.2.2.2.1 addr root.2.2.2.2.2.1 root.2.1).2.1).2.1).2.1).2.2.1 != IntKind.i64.wrap (IntKind.i64.wrap (IntKind.i64.wrap (root.2.2.2.2.2.1 - 1) - 1) - 1) then ((0, 0, 0, 0, [], []), 13) else ((0, 0, 0, 0, [], []), 13) else ((root.2.1, IntKind.i64.wrap (addr.tdiv 4096), (maS ts root.2.2.2.2.1 addr (IntKind.i64.wrap (IntKind.i64.wrap (root.2.2.2.2.2.1 - 1) - 1)) (maS ts root.2.2.2.2.1 addr (IntKind.i64.wrap (root.2.2.2.2.2.1 - 1)) (maS ts root.2.2.2.2.1 addr root.2.2.2.2.2.1 root.2.1).2.1).2.1).2.1, (maS ts root.2.2.2.2.1 addr (IntKind.i64.wrap (IntKind.i64.wrap (root.2.2.2.2.2.1 - 1) - 1)) (maS ts root.2.2.2.2.1 addr (IntKind.i64.wrap (root.2.2.2.2.2.1 - 1)) (maS ts root.2.2.2.2.1 addr root.2.2.2.2.2.1 root.2.1).2.1).2.1).2.2.1, [] ++ [(maS ts root.2.2.2.2.1 addr root.2.2.2.2.2.1 root.2.1).2.2.2] ++ [(maS ts root.2.2.2.2.1 addr (IntKind.i64.wrap (root.2.2.2.2.2.1 - 1)) (maS ts root.2.2.2.2.1 addr root.2.2.2.2.2.1 root.2.1).2.1).2.2.2] ++ [(maS ts root.2.2.2.2.1 addr (IntKind.i64.wrap (IntKind.i64.wrap (root.2.2.2.2.2.1 - 1) - 1)) (maS ts root.2.2.2.2.1 addr (IntKind.i64.wrap (root.2.2.2.2.2.1 - 1)) (maS ts root.2.2.2.2.1 addr root.2.2.2.2.2.1 root.2.1).2.1).2.1).2.2.2], [] ++ [root.2.1] ++ [(maS ts root.2.2.2.2.1 addr root.2.2.2.2.2.1 root.2.1).2.1] ++ [(maS ts root.2.2.2.2.1 addr (IntKind.i64.wrap (root.2.2.2.2.2.1 - 1)) (maS ts root.2.2.2.2.1 addr root.2.2.2.2.2.1 root.2.1).2.1).2.1]), 0) else ((root.2.1, IntKind.i64.wrap (addr.tdiv 4096), (maS ts root.2.2.2.2.1 addr (IntKind.i64.wrap (root.2.2.2.2.2.1 - 1)) (maS ts root.2.2.2.2.1 addr root.2.2.2.2.2.1 root.2.1).2.1).2.1, (maS ts root.2.2.2.2.1 addr (IntKind.i64.wrap (root.2.2.2.2.2.1 - 1)) (maS ts root.2.2.2.2.1 addr root.2.2.2.2.2.1 root.2.1).2.1).2.2.1, [] ++ [(maS ts root.2.2.2.2.1 addr root.2.2.2.2.2.1 root.2.1).2.2.2] ++ [(maS ts root.2.2.2.2.1 addr (IntKind.i64.wrap (root.2.2.2.2.2.1 - 1)) (maS ts root.2.2.2.2.1 addr root.2.2.2.2.2.1 root.2.1).2.1).2.2.2], [] ++ [root.2.1] ++ [(maS ts root.2.2.2.2.1 addr root.2.2.2.2.2.1 root.2.1).2.1]), 0) else ((root.2.1, IntKind.i64.wrap (addr.tdiv 4096), (maS ts root.2.2.2.2.1 addr root.2.2.2.2.2.1 root.2.1).2.1, (maS ts root.2.2.2.2.1 addr root.2.2.2.2.2.1 root.2.1).2.2.1, [] ++ [(maS ts root.2.2.2.2.1 addr root.2.2.2.2.2.1 root.2.1).2.2.2], [] ++ [root.2.1]), 0) else ((root.2.1, IntKind.i64.wrap (addr.tdiv 4096), 0, 0, [], []), 0)
noncomputable def P_rwlk : ((List (SPT)) × SCp × Int) → Bool
  | (ts, root, addr) => okM ts && bif !tabsB ts then true else bif !vcapB root then true else bif root.1 != 3 then true else bif root.2.2.2.2.2.1 != IntKind.i64.wrap ((geoS root.2.2.2.2.1).1 - 1) then true else bif !vaS (root.2.2.2.2.1, addr) then true else bif decide (root.2.2.2.2.2.1 ≥ 0) then len40n ts && bif decide (ftS ts root.2.1 < 0) then true else decide (0 ≤ ftS ts root.2.1) && decide (ftS ts root.2.1 < (↑ts.length : Int)) && bif (taS ts root.2.1).2.1 != root.2.2.2.2.1 then true else decide (0 ≤ ftS ts root.2.1) && decide (ftS ts root.2.1 < (↑ts.length : Int)) && bif (taS ts root.2.1).2.2.1 != root.2.2.2.2.2.1 then true else decide (0 ≤ ftS ts root.2.1) && decide (ftS ts root.2.1 < (↑ts.length : Int)) && (len40n (taS ts root.2.1).2.2.2 && bif decide (faS ts root.2.2.2.2.1 addr root.2.2.2.2.2.1 root.2.1 < 0) then true else decide (0 ≤ ftS ts root.2.1) && decide (ftS ts root.2.1 < (↑ts.length : Int)) && (decide (0 ≤ faS ts root.2.2.2.2.1 addr root.2.2.2.2.2.1 root.2.1) && decide (faS ts root.2.2.2.2.1 addr root.2.2.2.2.2.1 root.2.1 < (↑(List.length (taS ts root.2.1).2.2.2) : Int)) && bif decide (IntKind.i64.wrap (root.2.2.2.2.2.1 - 1) ≥ 0) then len40n ts && bif decide (ftS ts (maS ts root.2.2.2.2.1 addr root.2.2.2.2.2.1 root.2.1).2.1 < 0) then true else decide (0 ≤ ftS ts (maS ts root.2.2.2.2.1 addr root.2.2.2.2.2.1 root.2.1).2.1) && decide (ftS ts (maS ts root.2.2.2.2.1 addr root.2.2.2.2.2.1 root.2.1).2.1 < (↑ts.length : Int)) && bif (taS ts (maS ts root.2.2.2.2.1 addr root.2.2.2.2.2.1 root.2.1).2.1).2.1 != root.2.2.2.2.1 then true else decide (0 ≤ ftS ts (maS ts root.2.2.2.2.1 addr root.2.2.2.2.2.1 root.2.1).2.1) && decide (ftS ts (maS ts root.2.2.2.2.1 addr root.2.2.2.2.2.1 root.2.1).2.1 < (↑ts.length : Int)) && bif (taS ts (maS ts root.2.2.2.2.1 addr root.2.2.2.2.2.1 root.2.1).2.1).2.2.1 != IntKind.i64.wrap (root.2.2.2.2.2.1 - 1) then true else decide (0 ≤ ftS ts (maS ts root.2.2.2.2.1 addr root.2.2.2.2.2.1 root.2.1).2.1) && decide (ftS ts (maS ts root.2.2.2.2.1 addr root.2.2.2.2.2.1 root.2.1).2.1 < (↑ts.length : Int)) && (len40n (taS ts (maS ts root.2.2.2.2.1 addr root.2.2.2.2.2.1 root.2.1).2.1).2.2.2 && bif decide (faS ts root.2.2.2.2.1 addr (IntKind.i64.wrap (root.2.2.2.2.2.1 - 1)) (maS ts root.2.2.2.2.1 addr root.2.2.2.2.2.1 root.2.1).2.1 < 0) then true else decide (0 ≤ ftS ts (maS ts root.2.2.2.2.1 addr root.2.2.2.2.2.1 root.2.1).2.1) && decide (ftS ts (maS ts root.2.2.2.2.1 addr root.2.2.2.2.2.1 root.2.1).2.1 < (↑ts.length : Int)) && (decide (0 ≤ faS ts root.2.2.2.2.1 addr (IntKind.i64.wrap (root.2.2.2.2.2.1 - 1)) (maS ts root.2.2.2.2.1 addr root.2.2.2.2.2.1 root.2.1).2.1) && decide (faS ts root.2.2.2.2.1 addr (IntKind.i64.wrap (root.2.2.2.2.2.1 - 1)) (maS ts root.2.2.2.2.1 addr root.2.2.2.2.2.1 root.2.1).2.1 < (↑(List.length (taS ts (maS ts root.2.2.2.2.1 addr root.2.2.2.2.2.1 root.2.1).2.1).2.2.2) : Int)) && bif decide (IntKind.i64.wrap (IntKind.i64.wrap (root.2.2.2.2.2.1 - 1) - 1) ≥ 0) then len40n ts && bif decide (ftS ts (maS ts root.2.2.2.2.1 addr (IntKind.i64.wrap (root.2.2.2.2.2.1 - 1)) (maS ts root.2.2.2.2.1 addr root.2.2.2.2.2.1 root.2.1).2.1).2.1 < 0) then true else decide (0 ≤ ftS ts (maS ts root.2.2.2.2.1 addr (IntKind.i64.wrap (root.2.2.2.2.2.1 - 1)) (maS ts root.2.2.2.2.1 addr root.2.2.2.2.2.1 root.2.1).2.1).2.1) && decide (ftS ts (maS ts root.2.2.2.2.1 addr (IntKind.i64.wrap (root.2.2.2.2.2.1 - 1)) (maS ts root.2.2.2.2.1 addr root.2.2.2.2.2.1 root.2.1).2.1).2.1 < (↑ts.length : Int)) && bif (taS ts (maS ts root.2.2.2.2.1 addr (IntKind.i64.wrap (root.2.2.2.2.2.1 - 1)) (maS ts root.2.2.2.2.1 addr root.2.2.2.2.2.1 root.2.1).2.1).2.1).2.1 != root.2.2.2.2.1 then true else decide (0 ≤ ftS ts (maS ts root.2.2.2.2.1 addr (IntKind.i64.wrap (root.2.2.2.2.2.1 - 1)) (maS ts root.2.2.2.2.1 addr root.2.2.2.2.2.1 root.2.1).2.1).2.1) && decide (ftS ts (maS ts root.2.2.2.2.1 addr (IntKind.i64.wrap (root.2.2.2.2.2.1 - 1)) (maS ts root.2.2.2.2.1 addr root.2.2.2.2.2.1 root.2.1).2.1).2.1 < (↑ts.length : Int)) && bif (taS ts (maS ts root.2.2.2.2.1 addr (IntKind.i64.wrap (root.2.2.2.2.2.1 - 1)) (maS ts root.2.2.2.2.1 addr root.2.2.2.2.2.1 root.2.1).2.1).2.1).2.2.1 != IntKind.i64.wrap (IntKind.i64.wrap (root.2.2.2.2.2.1 - 1) - 1) then true else decide (0 ≤ ftS ts (maS ts root.2.2.2.2.1 addr (IntKind.i64.wrap (root.2.2.2.2.2.1 - 1)) (maS ts root.2.2.2.2.1 addr root.2.2.2.2.2.1 root.2.1).2.1).2.1) && decide (ftS ts (maS ts root.2.2.2.2.1 addr (IntKind.i64.wrap (root.2.2.2.2.2.1 - 1)) (maS ts root.2.2.2.2.1 addr root.2.2.2.2.2.1 root.2.1).2.1).2.1 < (↑ts.length : Int)) && (len40n (taS ts (maS ts root.2.2.2.2.1 addr (IntKind.i64.wrap (root.2.2.2.2.2.1 - 1)) (maS ts root.2.2.2.2.1 addr root.2.2.2.2.2.1 root.2.1).2.1).2.1).2.2.2 && bif decide (faS ts root.2.2.2.2.1 addr (IntKind.i64.wrap (IntKind.i64.wrap (root.2.2.2.2.2.1 - 1) - 1)) (maS ts root.2.2.2.2.1 addr (IntKind.i64.wrap (root.2.2.2.2.2.1 - 1)) (maS ts root.2.2.2.2.1 addr root.2.2.2.2.2.1 root.2.1).2.1).2.1 < 0) then true else decide (0 ≤ ftS ts (maS ts root.2.2.2.2.1 addr (IntKind.i64.wrap (root.2.2.2.2.2.1 - 1)) (maS ts root.2.2.2.2.1 addr root.2.2.2.2.2.1 root.2.1).2.1).2.1) && decide (ftS ts (maS ts root.2.2.2.2.1 addr (IntKind.i64.wrap (root.2.2.2.2.2.1 - 1)) (maS ts root.2.2.2.2.1 addr root.2.2.2.2.2.1 root.2.1).2.1).2.1 < (↑ts.length : Int)) && (decide (0 ≤ faS ts root.2.2.2.2.1 addr (IntKind.i64.wrap (IntKind.i64.wrap (root.2.2.2.2.2.1 - 1) - 1)) (maS ts root.2.2.2.2.1 addr (IntKind.i64.wrap (root.2.2.2.2.2.1 - 1)) (maS ts root.2.2.2.2.1 addr root.2.2.2.2.2.1 root.2.1).2.1).2.1) && decide (faS ts root.2.2.2.2.1 addr (IntKind.i64.wrap (IntKind.i64.wrap (root.2.2.2.2.2.1 - 1) - 1)) (maS ts root.2.2.2.2.1 addr (IntKind.i64.wrap (root.2.2.2.2.2.1 - 1)) (maS ts root.2.2.2.2.1 addr root.2.2.2.2.2.1 root.2.1).2.1).2.1 < (↑(List.length (taS ts (maS ts root.2.2.2.2.1 addr (IntKind.i64.wrap (root.2.2.2.2.2.1 - 1)) (maS ts root.2.2.2.2.1 addr root.2.2.2.2.2.1 root.2.1).2.1).2.1).2.2.2) : Int)) && bif decide (IntKind.i64.wrap (IntKind.i64.wrap (IntKind.i64.wrap (root.2.2.2.2.2.1 - 1) - 1) - 1) ≥ 0) then len40n ts && bif decide (ftS ts (maS ts root.2.2.2.2.1 addr (IntKind.i64.wrap (IntKind.i64.wrap (root.2.2.2.2.2.1 - 1) - 1)) (maS ts root.2.2.2.2.1 addr (IntKind.i64.wrap (root.2.2.2.2.2.1 - 1)) (maS ts root.2.2.2.2.1 addr root.2.2.2.2.2.1 root.2.1).2.1).2.1).2.1 < 0) then true else decide (0 ≤ ftS ts (maS ts root.2.2.2.2.1 addr (IntKind.i64.wrap (IntKind.i64.wrap (root.2.2.2.2.2.1 - 1) - 1)) (maS ts root.2.2.2.2.1 addr (IntKind.i64.wrap (root.2.2.2.2.2.1 - 1)) (maS ts root.2.2.2.2.1 addr root.2.2.2.2.2.1 root.2.1).2.1).2.1).2.1) && decide (ftS ts (maS ts root.2.2.2.2.1 addr (IntKind.i64.wrap (IntKind.i64.wrap (root.2.2.2.2.2.1 - 1) - 1)) (maS ts root.2.2.2.2.1 addr (IntKind.i64.wrap (root.2.2.2.2.2.1 - 1)) (maS ts root.2.2.2.2.1 addr root.2.2.2.2.2.1 root.2.1).2.1).2.1).2.1 < (↑ts.length : Int)) && bif (taS ts (maS ts root.2.2.2.2.1 addr (IntKind.i64.wrap (IntKind.i64.wrap (root.2.2.2.2.2.1 - 1) - 1)) (maS ts root.2.2.2.2.1 addr (IntKind.i64.wrap (root.2.2.2.2.2.1 - 1)) (maS ts root.2.2.2.2.1 addr root.2.2.2.2.2.1 root.2.1).2.1).2.1).2.1).2.1 != root.2.2.2.2.1 then true else decide (0 ≤ ftS ts (maS ts root.2.2.2.2.1 addr (IntKind.i64.wrap (IntKind.i64.wrap (root.2.2.2.2.2.1 - 1) - 1)) (maS ts root.2.2.2.2.1 addr (IntKind.i64.wrap (root.2.2.2.2.2.1 - 1)) (maS ts root.2.2.2.2.1 addr root.2.2.2.2.2.1 root.2.1).2.1).2.1).2.1) && decide (ftS ts (maS ts root.2.2.2.2.1 addr (IntKind.i64.wrap (IntKind.i64.wrap (root.2.2.2.2.2.1 - 1) - 1)) (maS ts root.2.2.2.2.1 addr (IntKind.i64.wrap (root.2.2.2.2.2.1 - 1)) (maS ts root.2.2.2.2.1 addr root.2.2.2.2.2.1 root.2.1).2.1).2.1).2.1 < (↑ts.length : Int)) && bif (taS ts (maS ts root.2.2.2.2.1 addr (IntKind.i64.wrap (IntKind.i64.wrap (root.2.2.2.2.2.1 - 1) - 1)) (maS ts root.2.2.2.2.1 addr (IntKind.i64.wrap (root.2.2.2.2.2.1 - 1)) (maS ts root.2.2.2.2.1 addr root.2.2.2.2.2.1 root.2.1).2.1).2.1).2.1).2.2.1 != IntKind.i64.wrap (IntKind.i64.wrap (IntKind.i64.wrap (root.2.2.2.2.2.1 - 1) - 1) - 1) then true else decide (0 ≤ ftS ts (maS ts root.2.2.2.2.1 addr (IntKind.i64.wrap (IntKind.i64.wrap (root.2.2.2.2.2.1 - 1) - 1)) (maS ts root.2.2.2.2.1 addr (IntKind.i64.wrap (root.2.2.2.2.2.1 - 1)) (maS ts root.2.2.2.2.1 addr root.2.2.2.2.2.1 root.2.1).2.1).2.1).2.1) && decide (ftS ts (maS ts root.2.2.2.2.1 addr (IntKind.i64.wrap (IntKind.i64.wrap (root.2.2.2.2.2.1 - 1) - 1)) (maS ts root.2.2.2.2.1 addr (IntKind.i64.wrap (root.2.2.2.2.2.1 - 1)) (maS ts root.2.2.2.2.1 addr root.2.2.2.2.2.1 root.2.1).2.1).2.1).2.1 < (↑ts.length : Int)) && (len40n (taS ts (maS ts root.2.2.2.2.1 addr (IntKind.i64.wrap (IntKind.i64.wrap (root.2.2.2.2.2.1 - 1) - 1)) (maS ts root.2.2.2.2.1 addr (IntKind.i64.wrap (root.2.2.2.2.2.1 - 1)) (maS ts root.2.2.2.2.1 addr root.2.2.2.2.2.1 root.2.1).2.1).2.1).2.1).2.2.2 && decide (faS ts root.2.2.2.2.1 addr (IntKind.i64.wrap (IntKind.i64.wrap (IntKind.i64.wrap (root.2.2.2.2.2.1 - 1) - 1) - 1)) (maS ts root.2.2.2.2.1 addr (IntKind.i64.wrap (IntKind.i64.wrap (root.2.2.2.2.2.1 - 1) - 1)) (maS ts root.2.2.2.2.1 addr (IntKind.i64.wrap (root.2.2.2.2.2.1 - 1)) (maS ts root.2.2.2.2.1 addr root.2.2.2.2.2.1 root.2.1).2.1).2.1).2.1 < 0)) else true)) else true)) else true)) else true
end Go.AL
/-
  Layer 16: Walk: what both compute. By an AI agent.
-/
namespace Go.AL
open Go.Proofs
set_option linter.unusedVariables false
set_option linter.unusedSimpArgs false
def z13 : STr × Int := ((0, 0, 0, 0, [], []), 13)
def wkF (ts : List SPT) (w addr lv b : Int) (k : STr × Int) : STr × Int :=
  bif !decide (ftS ts b ≥ 0) then z13 else bif (taS ts b).2.1 != w then z13 else bif (taS ts b).2.2.1 != lv then z13 else bif !decide (faS ts w addr lv b ≥ 0) then z13 else k
def wkR (ts : List SPT) (w addr lv b : Int) (k : STr × Int) : STr × Int :=
  bif decide (ftS ts b < 0) then z13 else bif (taS ts b).2.1 != w then z13 else bif (taS ts b).2.2.1 != lv then z13 else bif decide (faS ts w addr lv b < 0) then z13 else k
theorem ge_lt0 (x : Int) : (!decide (x ≥ 0)) = decide (x < 0) := by
  by_cases h : x < 0
  · rw [decide_eq_true h, decide_eq_false (by omega)]; rfl
  · rw [decide_eq_false h, decide_eq_true (by omega)]; rfl
theorem wkF_R {ts : List SPT} {w addr lv b : Int} {k : STr × Int} : wkF ts w addr lv b k = wkR ts w addr lv b k := by
  simp only [wkF, wkR, ge_lt0]
def wkP (ts : List SPT) (w addr lv b : Int) (q : Bool) : Bool :=
  len40n ts && bif decide (ftS ts b < 0) then true else decide (0 ≤ ftS ts b) && decide (ftS ts b < (↑ts.length : Int)) && bif (taS ts b).2.1 != w then true else decide (0 ≤ ftS ts b) && decide (ftS ts b < (↑ts.length : Int)) && bif (taS ts b).2.2.1 != lv then true else decide (0 ≤ ftS ts b) && decide (ftS ts b < (↑ts.length : Int)) && (len40n (taS ts b).2.2.2 && bif decide (faS ts w addr lv b < 0) then true else decide (0 ≤ ftS ts b) && decide (ftS ts b < (↑ts.length : Int)) && (decide (0 ≤ faS ts w addr lv b) && decide (faS ts w addr lv b < (↑(List.length (taS ts b).2.2.2) : Int)) && q))
theorem fmS_lt (l : List SMp) (b : Int) : fmS l b < l.length := by have := findI_lt (fun t : SMp => decide (t.1 = b)) l 0 (by omega); unfold fmS; omega
theorem wkP_ok {ts : List SPT} (h : okM ts = true) {w addr lv b : Int} {q : Bool} (hq : q = true) : wkP ts w addr lv b q = true := by
  subst hq
  unfold wkP
  rw [show len40n ts = true from decide_eq_true (okM_len h), Bool.true_and]
  by_cases hf : ftS ts b < 0
  · rw [decide_eq_true hf]; rfl
  · have hr := ft_range hf
    have hm : len40n (taS ts b).2.2.2 = true := okM_mem h (ft_getD hf)
    have hl := fmS_lt (taS ts b).2.2.2 (ixS (w, lv, addr))
    rw [decide_eq_false hf, decide_eq_true hr.1, decide_eq_true hr.2, hm]
    simp only [cond_false, Bool.true_and, Bool.and_true, Bool.and_self]
    cases (taS ts b).2.1 != w
    · cases (taS ts b).2.2.1 != lv
      · simp only [cond_false]
        by_cases hg : faS ts w addr lv b < 0
        · rw [decide_eq_true hg]; rfl
        · rw [decide_eq_false hg, decide_eq_true (show 0 ≤ faS ts w addr lv b by omega), decide_eq_true (show faS ts w addr lv b < ((List.length (taS ts b).2.2.2 : Nat) : Int) from hl)]; rfl
      · rfl
    · rfl
def wkS (ts : List SPT) (w addr : Int) : Nat → Int → Int → STr → STr × Int
  | 0, _, _, out => (out, 0)
  | n + 1, lv, b, out => wkR ts w addr lv b (wkS ts w addr n (lv - 1) (maS ts w addr lv b).2.1 (out.1, out.2.1, (maS ts w addr lv b).2.1, (maS ts w addr lv b).2.2.1, out.2.2.2.2.1 ++ [(maS ts w addr lv b).2.2.2], out.2.2.2.2.2 ++ [b]))
def wlkS (a : List SPT × SCp × Int) : STr × Int :=
  bif !tabsB a.1 then ((0, 0, 0, 0, [], []), 1) else bif !vcapB a.2.1 then ((0, 0, 0, 0, [], []), 5) else bif a.2.1.1 != 3 then ((0, 0, 0, 0, [], []), 5) else
  bif a.2.1.2.2.2.2.2.1 != (geoS a.2.1.2.2.2.2.1).1 - 1 then ((0, 0, 0, 0, [], []), 5) else bif !vaS (a.2.1.2.2.2.2.1, a.2.2) then ((0, 0, 0, 0, [], []), 6) else
  wkS a.1 a.2.1.2.2.2.2.1 a.2.2 (geoS a.2.1.2.2.2.2.1).1.toNat a.2.1.2.2.2.2.2.1 a.2.1.2.1 (a.2.1.2.1, a.2.2 / 4096, 0, 0, [], [])
theorem geo_3 (w : Int) : (geoS w).2.2.2 = true → (geoS w).1 = 2 ∨ (geoS w).1 = 3 := by
  intro h
  rcases geo_w h with rfl | rfl
  · exact .inl rfl
  · exact .inr rfl
theorem va_range {w a : Int} (h : vaS (w, a) = true) : (geoS w).2.2.2 = true ∧ 0 ≤ a ∧ a < 549755813888 := by
  obtain ⟨h1, h2⟩ := Bool.and_eq_true_iff.1 h
  obtain ⟨h2, h3⟩ := Bool.and_eq_true_iff.1 h2
  have h3 := of_decide_eq_true h3
  have h2 := of_decide_eq_true h2
  refine ⟨h1, h2, ?_⟩
  simp only at h3
  cases hd : decide (w = 32) <;> rw [hd] at h3 <;> simp only [cond_true, cond_false] at h3 <;> omega
theorem pg_s (a : Int) : a.fdiv (2 ^ min (Int.toNat 12) IntKind.i64.bits) = a / 4096 := Int.fdiv_eq_ediv_of_nonneg _ (by decide)
theorem pg_t {a : Int} (h : 0 ≤ a) (h2 : a < 549755813888) : IntKind.i64.wrap (a.tdiv 4096) = a / 4096 := by
  rw [Int.tdiv_eq_ediv_of_nonneg h]
  exact i64_id (by omega) (by omega)
theorem geoW (w : Int) : IntKind.i64.wrap ((geoS w).1 - 1) = (geoS w).1 - 1 := by
  unfold geoS
  cases decide (w = 32) <;> cases decide (w = 39) <;> rfl
section
variable (ts : List SPT) (root : SCp) (addr : Int)
theorem F_wlk_eq : F_wlk (ts, root, addr) = bif !tabsB ts then ((0, 0, 0, 0, [], []), 1) else bif !vcapB root then ((0, 0, 0, 0, [], []), 5) else bif root.1 != 3 then ((0, 0, 0, 0, [], []), 5) else bif root.2.2.2.2.2.1 != IntKind.i64.wrap ((geoS root.2.2.2.2.1).1 - 1) then ((0, 0, 0, 0, [], []), 5) else bif !vaS (root.2.2.2.2.1, addr) then ((0, 0, 0, 0, [], []), 6) else
    let p := addr.fdiv (2 ^ min (Int.toNat 12) IntKind.i64.bits)
    let w := root.2.2.2.2.1
    let l1 := root.2.2.2.2.2.1
    let l2 := IntKind.i64.wrap (l1 - 1)
    let l3 := IntKind.i64.wrap (l2 - 1)
    let l4 := IntKind.i64.wrap (l3 - 1)
    let b1 := root.2.1
    let m1 := maS ts w addr l1 b1
    let m2 := maS ts w addr l2 m1.2.1
    let m3 := maS ts w addr l3 m2.2.1
    bif decide (l1 ≥ 0) then wkF ts w addr l1 b1 (bif decide (l2 ≥ 0) then wkF ts w addr l2 m1.2.1 (bif decide (l3 ≥ 0) then wkF ts w addr l3 m2.2.1 (bif decide (l4 ≥ 0) then
        (bif !decide (ftS ts m3.2.1 ≥ 0) then z13 else bif (taS ts m3.2.1).2.1 != w then z13 else bif (taS ts m3.2.1).2.2.1 != l4 then z13 else z13)
      else ((b1, p, m3.2.1, m3.2.2.1, [m1.2.2.2] ++ [m2.2.2.2] ++ [m3.2.2.2], [b1] ++ [m1.2.1] ++ [m2.2.1]), 0)) else ((b1, p, m2.2.1, m2.2.2.1, [m1.2.2.2] ++ [m2.2.2.2], [b1] ++ [m1.2.1]), 0)) else ((b1, p, m1.2.1, m1.2.2.1, [m1.2.2.2], [b1]), 0)) else ((b1, p, 0, 0, [], []), 0) := rfl
theorem F_rwlk_eq : F_rwlk (ts, root, addr) = bif !tabsB ts then ((0, 0, 0, 0, [], []), 1) else bif !vcapB root then ((0, 0, 0, 0, [], []), 5) else bif root.1 != 3 then ((0, 0, 0, 0, [], []), 5) else bif root.2.2.2.2.2.1 != IntKind.i64.wrap ((geoS root.2.2.2.2.1).1 - 1) then ((0, 0, 0, 0, [], []), 5) else bif !vaS (root.2.2.2.2.1, addr) then ((0, 0, 0, 0, [], []), 6) else
    let p := IntKind.i64.wrap (addr.tdiv 4096)
    let w := root.2.2.2.2.1
    let l1 := root.2.2.2.2.2.1
    let l2 := IntKind.i64.wrap (l1 - 1)
    let l3 := IntKind.i64.wrap (l2 - 1)
    let l4 := IntKind.i64.wrap (l3 - 1)
    let b1 := root.2.1
    let m1 := maS ts w addr l1 b1
    let m2 := maS ts w addr l2 m1.2.1
    let m3 := maS ts w addr l3 m2.2.1
    bif decide (l1 ≥ 0) then wkR ts w addr l1 b1 (bif decide (l2 ≥ 0) then wkR ts w addr l2 m1.2.1 (bif decide (l3 ≥ 0) then wkR ts w addr l3 m2.2.1 (bif decide (l4 ≥ 0) then
        (bif decide (ftS ts m3.2.1 < 0) then z13 else bif (taS ts m3.2.1).2.1 != w then z13 else bif (taS ts m3.2.1).2.2.1 != l4 then z13 else z13)
      else ((b1, p, m3.2.1, m3.2.2.1, [] ++ [m1.2.2.2] ++ [m2.2.2.2] ++ [m3.2.2.2], [] ++ [b1] ++ [m1.2.1] ++ [m2.2.1]), 0)) else ((b1, p, m2.2.1, m2.2.2.1, [] ++ [m1.2.2.2] ++ [m2.2.2.2], [] ++ [b1] ++ [m1.2.1]), 0)) else ((b1, p, m1.2.1, m1.2.2.1, [] ++ [m1.2.2.2], [] ++ [b1]), 0)) else ((b1, p, 0, 0, [], []), 0) := rfl
end
theorem P_rwlk_eq (ts : List SPT) (root : SCp) (addr : Int) : P_rwlk (ts, root, addr) = (okM ts && bif !tabsB ts then true else bif !vcapB root then true else bif root.1 != 3 then true else bif root.2.2.2.2.2.1 != IntKind.i64.wrap ((geoS root.2.2.2.2.1).1 - 1) then true else bif !vaS (root.2.2.2.2.1, addr) then true else
    let w := root.2.2.2.2.1
    let l1 := root.2.2.2.2.2.1
    let l2 := IntKind.i64.wrap (l1 - 1)
    let l3 := IntKind.i64.wrap (l2 - 1)
    let l4 := IntKind.i64.wrap (l3 - 1)
    let b1 := root.2.1
    let m1 := maS ts w addr l1 b1
    let m2 := maS ts w addr l2 m1.2.1
    let m3 := maS ts w addr l3 m2.2.1
    bif decide (l1 ≥ 0) then wkP ts w addr l1 b1 (bif decide (l2 ≥ 0) then wkP ts w addr l2 m1.2.1 (bif decide (l3 ≥ 0) then wkP ts w addr l3 m2.2.1 (bif decide (l4 ≥ 0) then
       len40n ts && bif decide (ftS ts m3.2.1 < 0) then true else decide (0 ≤ ftS ts m3.2.1) && decide (ftS ts m3.2.1 < (↑ts.length : Int)) && bif (taS ts m3.2.1).2.1 != w then true else decide (0 ≤ ftS ts m3.2.1) && decide (ftS ts m3.2.1 < (↑ts.length : Int)) && bif (taS ts m3.2.1).2.2.1 != l4 then true else decide (0 ≤ ftS ts m3.2.1) && decide (ftS ts m3.2.1 < (↑ts.length : Int)) && (len40n (taS ts m3.2.1).2.2.2 && decide (faS ts w addr l4 m3.2.1 < 0))
      else true) else true) else true) else true) := rfl
theorem P_wlk_eq (ts : List SPT) (root : SCp) (addr : Int) : P_wlk (ts, root, addr) = P_rwlk (ts, root, addr) := by
  simp only [P_wlk, P_rwlk, ge_lt0]
theorem lv_neg {b : Int} {l : Int} (h : (l != b) = false) : l = b := by simpa using h
theorem rwlk_both : ∀ a : List SPT × SCp × Int, okM a.1 = true → P_rwlk a = true ∧ F_rwlk a = wlkS a := by
  rintro ⟨ts, root, addr⟩ h
  have h : okM ts = true := h
  rw [P_rwlk_eq, F_rwlk_eq, wlkS, h, Bool.true_and]
  simp only [geoW]
  cases hT : tabsB ts
  · exact ⟨rfl, rfl⟩
  cases hV : vcapB root
  · exact ⟨rfl, rfl⟩
  cases hK : root.1 != 3
  case true => exact ⟨rfl, rfl⟩
  cases hL : root.2.2.2.2.2.1 != (geoS root.2.2.2.2.1).1 - 1
  case true => exact ⟨rfl, rfl⟩
  cases hA : vaS (root.2.2.2.2.1, addr)
  · exact ⟨rfl, rfl⟩
  obtain ⟨hg, ha, hb⟩ := va_range hA
  have hL := lv_neg hL
  simp only [Bool.not_true, cond_false, pg_t ha hb]
  rw [hL]
  rcases geo_3 _ hg with g | g
  · rw [g]
    exact ⟨wkP_ok h (wkP_ok h rfl), rfl⟩
  · rw [g]
    exact ⟨wkP_ok h (wkP_ok h (wkP_ok h rfl)), rfl⟩
theorem F_wlk_r : ∀ a : List SPT × SCp × Int, okM a.1 = true → F_wlk a = F_rwlk a := by
  rintro ⟨ts, root, addr⟩ h
  rw [F_wlk_eq, F_rwlk_eq]
  simp only [geoW, wkF_R, ge_lt0, pg_s, List.nil_append]
  cases hA : vaS (root.2.2.2.2.1, addr)
  · rfl
  obtain ⟨hg, ha, hb⟩ := va_range hA
  simp only [pg_t ha hb]
theorem wlk_both : ∀ a : List SPT × SCp × Int, okM a.1 = true → P_wlk a = true ∧ F_wlk a = wlkS a := fun a h => by
  rw [F_wlk_r a h]
  obtain ⟨ts, root, addr⟩ := a
  rw [P_wlk_eq]
  exact rwlk_both _ h
theorem wlk_P : ∀ a : List SPT × SCp × Int, (fun a : List SPT × SCp × Int => okM a.1) a = true → P_wlk a = true := fun a h => (wlk_both a h).1
theorem wlk_F : ∀ a : List SPT × SCp × Int, (fun a : List SPT × SCp × Int => okM a.1) a = true → F_wlk a = wlkS a := fun a h => (wlk_both a h).2
theorem wlk_run : ∀ a, (fun a => okM a.1 : (List (SPT)) × SCp × Int → Bool) a = true → ∃ f, M_wlk f a = some ((wlkS : (List (SPT)) × SCp × Int → STr × Int) a) := fun a h => by have h1 := wlk_auto a (wlk_P a h); rw [wlk_F a h] at h1; exact h1
noncomputable def E_wlk : Ent := ⟨21, [.rd tSPT, .g tSCp, .c (.int .i64)], [.g tSTr, .v (.int .i64)], fun a => (fun a => okM a.1 : (List (SPT)) × SCp × Int → Bool) a, fun a => (wlkS : (List (SPT)) × SCp × Int → STr × Int) a⟩
theorem E_wlk_ok : E_wlk.Ok Try.prog := fun a hp vs hv => (wlk_run a hp).elim fun f h => fnX_ok (C := C_wlk) (Lt := Lt_wlk) (fn := Try.f21) (rs := [.cell 6 45, .tmp 7]) [.rd tSPT, .g tSCp, .c (.int .i64)] [.g tSTr, .v (.int .i64)] mixed es_wlk Try.func21 rfl rfl rfl (by kernel_rfl) (by kernel_rfl) f h vs hv
end Go.AL
/-
  Layer 16: walks, Sync and caches: models. By an AI agent.
-/
namespace Go.AL
open Go.Proofs
set_option linter.unusedVariables false
set_option linter.unusedSimpArgs false
def okL (l : List STr) : Bool := len36n l && l.all trPre
theorem okL_len {l : List STr} (h : okL l = true) : l.length ≤ 68719476736 := of_decide_eq_true (Bool.and_eq_true_iff.1 h).1
theorem okL_mem {l : List STr} (h : okL l = true) {t : STr} (ht : t ∈ l) : trPre t = true := List.all_eq_true.1 (Bool.and_eq_true_iff.1 h).2 t ht
theorem tr40 {u : STr} (h : trPre u = true) : (len40n u.2.2.2.2.1 && len40n u.2.2.2.2.2) = true := by
  obtain ⟨h1, h2⟩ := Bool.and_eq_true_iff.1 h
  have h1 : u.2.2.2.2.1.length ≤ 68719476736 := of_decide_eq_true h1
  have h2 : u.2.2.2.2.2.length ≤ 68719476736 := of_decide_eq_true h2
  rw [Bool.and_eq_true]
  exact ⟨decide_eq_true (by omega), decide_eq_true (by omega)⟩
def keepF (t u : STr) : Bool := bif u.1 != t.1 then true else u.2.1 != t.2.1
noncomputable def C_fil1 : Cfg := ⟨Try.prog, [], pmT [], 16, [], []⟩
theorem es_fil1 : EsOk Try.prog [] [] := es_nil
def Lt_fil1 : Nat → LD := ldT []
noncomputable def M_fil1 (f : Nat) (a : STr × STr) : Option (Bool) := (runX (C_fil1) Lt_fil1 (Kret Try.prog [.tmp 3] [.v (.bool)]) f [.code (bodyOf Try.f72)] (initX [.g tSTr, .cp tSTr] a) : Option (ResT [.v (.bool)]))
theorem M_fil1_eq (f : Nat) (u : STr) (t : STr) : M_fil1 (f + 1) (u, t) =
    bif u.1 != t.1 then some true else some (u.2.1 != t.2.1) := by kernel_rfl
noncomputable def F_fil1 : (STr × STr) → Bool
  | (u, t) => bif u.1 != t.1 then true else u.2.1 != t.2.1
noncomputable def P_fil1 : (STr × STr) → Bool
  | (u, t) => true
theorem fil1_auto : ∀ a : STr × STr, Rns (fun f => M_fil1 f a) (P_fil1 a) (F_fil1 a)
  | (u, t) => ev_step (fun f => M_fil1_eq f _ _) (ev_bift ev_some ev_some)
theorem fil1_P : ∀ a : STr × STr, (fun _ => true) a = true → P_fil1 a = true := fun a h => rfl
theorem fil1_F : ∀ a : STr × STr, (fun _ => true) a = true → F_fil1 a = (fun a : STr × STr => keepF a.2 a.1) a := fun a h => rfl
theorem fil1_run : ∀ a, (fun _ => true : STr × STr → Bool) a = true → ∃ f, M_fil1 f a = some ((fun a => keepF a.2 a.1 : STr × STr → Bool) a) := fun a h => by have h1 := fil1_auto a (fil1_P a h); rw [fil1_F a h] at h1; exact h1
noncomputable def E_fil1 : Ent := ⟨72, [.g tSTr, .cp tSTr], [.v (.bool)], fun a => (fun _ => true : STr × STr → Bool) a, fun a => (fun a => keepF a.2 a.1 : STr × STr → Bool) a⟩
theorem E_fil1_ok : E_fil1.Ok Try.prog := fun a hp vs hv => (fil1_run a hp).elim fun f h => fnX_ok (C := C_fil1) (Lt := Lt_fil1) (fn := Try.f72) (rs := [.tmp 3]) [.g tSTr, .cp tSTr] [.v (.bool)] mixed es_fil1 Try.func72 rfl rfl rfl (by kernel_rfl) (by kernel_rfl) f h vs hv
noncomputable def C_flf : Cfg := ⟨Try.prog, [E_ctr, E_fil1], pmT [], 24, [], []⟩
theorem es_flf : EsOk Try.prog [E_ctr, E_fil1] [] := es_cons E_ctr_ok (es_cons E_fil1_ok (es_nil))
def Lt_flf : Nat → LD := ldT [(0, ⟨[.fn 1 72 [tSTr], .list 5 999 45 6 tSTr, .rd 8 tSTr, .c 9 (.int .i64), .c 10 (.int .i64)], []⟩)]
noncomputable def M_flf (f : Nat) (a : (List (STr)) × STr) : Option ((List (STr))) := (runX (C_flf) Lt_flf (Kret Try.prog [.tmp 4] [.o 45 6 tSTr]) f [.code (bodyOf Try.f71)] (initX [.rd tSTr, .fn 72 [tSTr]] a) : Option (ResT [.o 45 6 tSTr]))
noncomputable def L_flf_0 (f : Nat) (x : STr × (List (STr)) × (List (STr)) × Int × Int) : Option ((List (STr))) := (runX (C_flf) Lt_flf (Kret Try.prog [.tmp 4] [.o 45 6 tSTr]) f (headOf Try.f71 0) ((Lt_flf 0).mk' x) : Option (ResT [.o 45 6 tSTr]))
theorem M_flf_eq (f : Nat) (tlb : List (STr)) (keep : STr) : M_flf (f + 1) (tlb, keep) =
    L_flf_0 f (keep, [], tlb, (↑tlb.length : Int), 0) := by kernel_rfl
theorem L_flf_0_eq (f : Nat) (keep : STr) (out : List (STr)) (x8 : List (STr)) (x9 : Int) (x10 : Int) : L_flf_0 (f + 1) (keep, out, x8, x9, x10) =
    bif decide (x10 < x9) then bif decide (0 ≤ x10) && decide (x10 < (↑x8.length : Int)) then bif keepF keep (x8.getD x10.toNat (0, 0, 0, 0, [], [])) then bif len40n (x8.getD x10.toNat (0, 0, 0, 0, [], [])).2.2.2.2.1 && len40n (x8.getD x10.toNat (0, 0, 0, 0, [], [])).2.2.2.2.2 then bif decide ((out.length + [x8.getD x10.toNat (0, 0, 0, 0, [], [])].length) * 80 ≤ 140737488355328) then L_flf_0 f (keep, out ++ [x8.getD x10.toNat (0, 0, 0, 0, [], [])], x8, x9, IntKind.i64.wrap (x10 + 1)) else none else none else L_flf_0 f (keep, out, x8, x9, IntKind.i64.wrap (x10 + 1)) else none else some out := by kernel_rfl
noncomputable def F_flf_0 : List (STr) → (STr × (List (STr)) × (List (STr)) × Int × Nat) → (List (STr))
  | [], (keep, out, x8, x9, x10) => out
  | uu :: rest, (keep, out, x8, x9, x10) => bif keepF keep uu then F_flf_0 rest (keep, out ++ [uu], x8, x9, x10 + 1) else F_flf_0 rest (keep, out, x8, x9, x10 + 1)
noncomputable def P_flf_0 : List (STr) → (STr × (List (STr)) × (List (STr)) × Int × Nat) → Bool
  | [], (keep, out, x8, x9, x10) => true
  | uu :: rest, (keep, out, x8, x9, x10) => bif keepF keep uu then len40n uu.2.2.2.2.1 && len40n uu.2.2.2.2.2 && (decide ((out.length + [uu].length) * 80 ≤ 140737488355328) && P_flf_0 rest (keep, out ++ [uu], x8, x9, x10 + 1)) else P_flf_0 rest (keep, out, x8, x9, x10 + 1)
theorem A_flf_0 : ∀ (rest : List (STr)) (keep : STr) (out : List (STr)) (x8 : List (STr)) (x9 : Int) (x10 : Nat) (hd : x8.drop x10 = rest) (hn : x9 = ((x8.length : Nat) : Int)) (hl : x8.length ≤ 1099511627776), Rns (fun f => L_flf_0 f (keep, out, x8, x9, ((x10 : Nat) : Int))) (P_flf_0 rest (keep, out, x8, x9, x10)) (F_flf_0 rest (keep, out, x8, x9, x10))
  | [], keep, out, x8, x9, x10, hd, hn, hl => ev_step (T := fun f => some out) (fun f => (L_flf_0_eq f _ _ _ _ _).trans (by simp only [ge_decn hn (drop_ge hd), ge0, Bool.and_self, Bool.true_and, cond_true, cond_false, List.length_set] <;> rfl)) ev_some
  | uu :: rest, keep, out, x8, x9, x10, hd, hn, hl => ev_step (T := fun f => bif keepF keep uu then bif len40n uu.2.2.2.2.1 && len40n uu.2.2.2.2.2 then bif decide ((out.length + [uu].length) * 80 ≤ 140737488355328) then L_flf_0 f (keep, out ++ [uu], x8, x9, (↑(x10 + 1) : Int)) else none else none else L_flf_0 f (keep, out, x8, x9, (↑(x10 + 1) : Int))) (fun f => (L_flf_0_eq f _ _ _ _ _).trans (by simp only [lt_decn hn (drop_lt hd), lt_dec (drop_lt hd), drop_get hd, wrap_succ (drop_lt hd) hl, getD_set (drop_lt hd), ge0, Bool.and_self, Bool.true_and, cond_true, cond_false, List.length_set] <;> rfl)) (ev_bif (ev_chk (ev_chk (A_flf_0 rest _ _ _ _ _ (by first | exact drop_succ hd | exact drop_set hd | exact drop_setS (drop_set hd)) (by first | exact hn | simpa using hn) (by first | exact hl | simpa using hl)))) (A_flf_0 rest _ _ _ _ _ (by first | exact drop_succ hd | exact drop_set hd | exact drop_setS (drop_set hd)) (by first | exact hn | simpa using hn) (by first | exact hl | simpa using hl)))
noncomputable def F_flf : ((List (STr)) × STr) → (List (STr))
  | (tlb, keep) => F_flf_0 tlb (keep, [], tlb, (↑tlb.length : Int), 0)
noncomputable def P_flf : ((List (STr)) × STr) → Bool
  | (tlb, keep) => decide (tlb.length ≤ 1099511627776) && P_flf_0 tlb (keep, [], tlb, (↑tlb.length : Int), 0)
theorem flf_auto : ∀ a : (List (STr)) × STr, Rns (fun f => M_flf f a) (P_flf a) (F_flf a)
  | (tlb, keep) => ev_step (fun f => M_flf_eq f _ _) (ev_and fun hh => A_flf_0 _ _ _ _ _ _ rfl (by first | rfl | simp) (of_decide_eq_true hh))
theorem flf_0 (t : STr) (x8 : List STr) (x9 : Int) : ∀ (r out : List STr) (k : Nat), (∀ e ∈ r, trPre e = true) → out.length + r.length ≤ 68719476736 → F_flf_0 r (t, out, x8, x9, k) = out ++ r.filter (keepF t) ∧ P_flf_0 r (t, out, x8, x9, k) = true
  | [], out, k, h, hl => ⟨by simp [F_flf_0], rfl⟩
  | u :: r, out, k, h, hl => by
    simp only [List.length_cons] at hl
    have hu := tr40 (h u (List.mem_cons_self ..))
    obtain ⟨i1, i2⟩ := flf_0 t x8 x9 r (out ++ [u]) (k + 1) (fun e he => h e (List.mem_cons_of_mem _ he)) (by simp; omega)
    obtain ⟨j1, j2⟩ := flf_0 t x8 x9 r out (k + 1) (fun e he => h e (List.mem_cons_of_mem _ he)) (by omega)
    simp only [F_flf_0, P_flf_0, i1, i2, j1, j2, hu, Bool.true_and, List.filter_cons]
    cases hk : keepF t u
    · exact ⟨rfl, rfl⟩
    · simp only [cond_true, if_true, List.append_assoc, List.singleton_append, Bool.and_true, decide_eq_true_eq, true_and]
      simp only [List.length_singleton]; omega
theorem flf_P : ∀ a : List STr × STr, (fun a : List STr × STr => okL a.1) a = true → P_flf a = true := fun a h => by
  have h : okL a.1 = true := h
  simp only [P_flf, (flf_0 a.2 _ _ a.1 [] 0 (fun e he => okL_mem h he) (by simpa using okL_len h)).2, Bool.and_true]
  exact decide_eq_true (by have := okL_len h; omega)
theorem flf_F : ∀ a : List STr × STr, (fun a : List STr × STr => okL a.1) a = true → F_flf a = (fun a : List STr × STr => a.1.filter (keepF a.2)) a := fun a h => by
  have h : okL a.1 = true := h
  simp only [F_flf, (flf_0 a.2 _ _ a.1 [] 0 (fun e he => okL_mem h he) (by simpa using okL_len h)).1, List.nil_append]
theorem flf_run : ∀ a, (fun a => okL a.1 : (List (STr)) × STr → Bool) a = true → ∃ f, M_flf f a = some ((fun a => a.1.filter (keepF a.2) : (List (STr)) × STr → (List (STr))) a) := fun a h => by have h1 := flf_auto a (flf_P a h); rw [flf_F a h] at h1; exact h1
noncomputable def E_flf : Ent := ⟨71, [.rd tSTr, .fn 72 [tSTr]], [.o 45 6 tSTr], fun a => (fun a => okL a.1 : (List (STr)) × STr → Bool) a, fun a => (fun a => a.1.filter (keepF a.2) : (List (STr)) × STr → (List (STr))) a⟩
theorem E_flf_ok : E_flf.Ok Try.prog := fun a hp vs hv => (flf_run a hp).elim fun f h => fnX_ok (C := C_flf) (Lt := Lt_flf) (fn := Try.f71) (rs := [.tmp 4]) [.rd tSTr, .fn 72 [tSTr]] [.o 45 6 tSTr] mixed es_flf Try.func71 rfl rfl rfl (by kernel_rfl) (by kernel_rfl) f h vs hv
noncomputable def C_vfil : Cfg := ⟨Try.prog, [E_flf, E_ctr], pmT [], 20, [], [(13, tSTr)]⟩
theorem es_vfil : EsOk Try.prog [E_flf, E_ctr] [] := es_cons E_flf_ok (es_cons E_ctr_ok (es_nil))
def Lt_vfil : Nat → LD := ldT []
noncomputable def M_vfil (f : Nat) (a : (List (STr)) × STr) : Option ((List (STr))) := (runX (C_vfil) Lt_vfil (Kret Try.prog [.tmp 4] [.v (.sl tSTr)]) f [.code (bodyOf Try.f41)] (initX [.rd tSTr, .g tSTr] a) : Option (ResT [.v (.sl tSTr)]))
theorem M_vfil_eq (f : Nat) (tlb : List (STr)) (t : STr) : M_vfil (f + 1) (tlb, t) =
    bif okL tlb then bif len40n t.2.2.2.2.1 && len40n t.2.2.2.2.2 then bif decide (((List.filter (keepF t) tlb).length + [t].length) * 80 ≤ 140737488355328) then bif decide (0 ≤ if IntKind.i64.wrap ((↑(List.filter (keepF t) tlb ++ [t]).length : Int) - 8) > 0 then IntKind.i64.wrap ((↑(List.filter (keepF t) tlb ++ [t]).length : Int) - 8) else 0) && decide ((if IntKind.i64.wrap ((↑(List.filter (keepF t) tlb ++ [t]).length : Int) - 8) > 0 then IntKind.i64.wrap ((↑(List.filter (keepF t) tlb ++ [t]).length : Int) - 8) else 0) ≤ (↑(List.filter (keepF t) tlb ++ [t]).length : Int)) then some (List.drop (if IntKind.i64.wrap ((↑(List.filter (keepF t) tlb ++ [t]).length : Int) - 8) > 0 then IntKind.i64.wrap ((↑(List.filter (keepF t) tlb ++ [t]).length : Int) - 8) else 0).toNat (List.filter (keepF t) tlb ++ [t])) else none else none else none else none := by kernel_rfl
noncomputable def F_vfil : ((List (STr)) × STr) → (List (STr))
  | (tlb, t) => List.drop (if IntKind.i64.wrap ((↑(List.filter (keepF t) tlb ++ [t]).length : Int) - 8) > 0 then IntKind.i64.wrap ((↑(List.filter (keepF t) tlb ++ [t]).length : Int) - 8) else 0).toNat (List.filter (keepF t) tlb ++ [t])
noncomputable def P_vfil : ((List (STr)) × STr) → Bool
  | (tlb, t) => okL tlb && (len40n t.2.2.2.2.1 && len40n t.2.2.2.2.2 && (decide (((List.filter (keepF t) tlb).length + [t].length) * 80 ≤ 140737488355328) && (decide (0 ≤ if IntKind.i64.wrap ((↑(List.filter (keepF t) tlb ++ [t]).length : Int) - 8) > 0 then IntKind.i64.wrap ((↑(List.filter (keepF t) tlb ++ [t]).length : Int) - 8) else 0) && decide ((if IntKind.i64.wrap ((↑(List.filter (keepF t) tlb ++ [t]).length : Int) - 8) > 0 then IntKind.i64.wrap ((↑(List.filter (keepF t) tlb ++ [t]).length : Int) - 8) else 0) ≤ (↑(List.filter (keepF t) tlb ++ [t]).length : Int)))))
theorem vfil_auto : ∀ a : (List (STr)) × STr, Rns (fun f => M_vfil f a) (P_vfil a) (F_vfil a)
  | (tlb, t) => ev_step (fun f => M_vfil_eq f _ _) (ev_chk (ev_chk (ev_chk (ev_chk1 ev_some))))
def cutL (l : List STr) : List STr := l.drop (l.length - 8)
def filS (a : List STr × STr) : List STr := cutL (a.1.filter (keepF a.2) ++ [a.2])
def filPre (a : List STr × STr) : Bool := okL a.1 && trPre a.2
theorem cut_n (n : Nat) (h : n ≤ 68719476737) : IntKind.i64.wrap (((n : Nat) : Int) - 8) = (n : Int) - 8 := i64_id (by omega) (by omega)
theorem fil_len {a : List STr × STr} (h : okL a.1 = true) : (a.1.filter (keepF a.2) ++ [a.2]).length ≤ 68719476737 := by
  have := okL_len h
  have := List.length_filter_le (keepF a.2) a.1
  rw [List.length_append, List.length_singleton]; omega
theorem cut_d {l : List STr} : (if ((l.length : Nat) : Int) - 8 > 0 then ((l.length : Nat) : Int) - 8 else 0).toNat = l.length - 8 := by
  split <;> omega
theorem vfil_P : ∀ a : List STr × STr, filPre a = true → P_vfil a = true := fun a h => by
  obtain ⟨h1, h2⟩ := Bool.and_eq_true_iff.1 h
  have hl := okL_len h1
  have hf := List.length_filter_le (keepF a.2) a.1
  simp only [P_vfil, h1, tr40 h2, cut_n _ (fil_len h1), Bool.true_and, Bool.and_eq_true, decide_eq_true_eq, List.length_singleton]
  refine ⟨by omega, ?_, ?_⟩ <;> split <;> omega
theorem vfil_F : ∀ a : List STr × STr, filPre a = true → F_vfil a = filS a := fun a h => by
  obtain ⟨h1, h2⟩ := Bool.and_eq_true_iff.1 h
  simp only [F_vfil, cut_n _ (fil_len h1), cut_d]
  rfl
theorem vfil_run : ∀ a, (filPre : (List (STr)) × STr → Bool) a = true → ∃ f, M_vfil f a = some ((filS : (List (STr)) × STr → (List (STr))) a) := fun a h => by have h1 := vfil_auto a (vfil_P a h); rw [vfil_F a h] at h1; exact h1
noncomputable def E_vfil : Ent := ⟨41, [.rd tSTr, .g tSTr], [.v (.sl tSTr)], fun a => (filPre : (List (STr)) × STr → Bool) a, fun a => (filS : (List (STr)) × STr → (List (STr))) a⟩
theorem E_vfil_ok : E_vfil.Ok Try.prog := fun a hp vs hv => (vfil_run a hp).elim fun f h => fnX_ok (C := C_vfil) (Lt := Lt_vfil) (fn := Try.f41) (rs := [.tmp 4]) [.rd tSTr, .g tSTr] [.v (.sl tSTr)] mixed es_vfil Try.func41 rfl rfl rfl (by kernel_rfl) (by kernel_rfl) f h vs hv
end Go.AL
/-
  Layer 16: walks, Sync and caches: models. By an AI agent.
-/
namespace Go.AL
open Go.Proofs
set_option linter.unusedVariables false
set_option linter.unusedSimpArgs false
noncomputable def C_cpd : Cfg := ⟨Try.prog, [E_rctr], pmT [], 20, [], []⟩
theorem es_cpd : EsOk Try.prog [E_rctr] [] := es_cons E_rctr_ok (es_nil)
def Lt_cpd : Nat → LD := ldT [(0, ⟨[.rd 0 tSTr, .list 3 999 45 6 tSTr, .c 4 (.int .i64)], []⟩)]
noncomputable def M_cpd (f : Nat) (a : (List (STr))) : Option ((List (STr))) := (runX (C_cpd) Lt_cpd (Kret Try.prog [.tmp 2] [.o 45 6 tSTr]) f [.code (bodyOf Try.f37)] (initX [.rd tSTr] a) : Option (ResT [.o 45 6 tSTr]))
noncomputable def L_cpd_0 (f : Nat) (x : (List (STr)) × (List (STr)) × Int) : Option ((List (STr))) := (runX (C_cpd) Lt_cpd (Kret Try.prog [.tmp 2] [.o 45 6 tSTr]) f (headOf Try.f37 0) ((Lt_cpd 0).mk' x) : Option (ResT [.o 45 6 tSTr]))
theorem M_cpd_eq (f : Nat) (l : List (STr)) : M_cpd (f + 1) l =
    L_cpd_0 f (l, [], 0) := by kernel_rfl
theorem L_cpd_0_eq (f : Nat) (l : List (STr)) (out : List (STr)) (i : Int) : L_cpd_0 (f + 1) (l, out, i) =
    bif decide (i < (↑l.length : Int)) then bif decide (0 ≤ i) && decide (i < (↑l.length : Int)) then bif trPre (l.getD i.toNat (0, 0, 0, 0, [], [])) then bif decide ((out.length + [l.getD i.toNat (0, 0, 0, 0, [], [])].length) * 80 ≤ 140737488355328) then L_cpd_0 f (l, out ++ [l.getD i.toNat (0, 0, 0, 0, [], [])], IntKind.i64.wrap (i + 1)) else none else none else none else some out := by kernel_rfl
noncomputable def F_cpd_0 : List (STr) → ((List (STr)) × (List (STr)) × Nat) → (List (STr))
  | [], (l, out, i) => out
  | uu :: rest, (l, out, i) => F_cpd_0 rest (l, out ++ [uu], i + 1)
noncomputable def P_cpd_0 : List (STr) → ((List (STr)) × (List (STr)) × Nat) → Bool
  | [], (l, out, i) => true
  | uu :: rest, (l, out, i) => trPre uu && (decide ((out.length + [uu].length) * 80 ≤ 140737488355328) && P_cpd_0 rest (l, out ++ [uu], i + 1))
theorem A_cpd_0 : ∀ (rest : List (STr)) (l : List (STr)) (out : List (STr)) (i : Nat) (hd : l.drop i = rest) (hl : l.length ≤ 1099511627776), Rns (fun f => L_cpd_0 f (l, out, ((i : Nat) : Int))) (P_cpd_0 rest (l, out, i)) (F_cpd_0 rest (l, out, i))
  | [], l, out, i, hd, hl => ev_step (T := fun f => some out) (fun f => (L_cpd_0_eq f _ _ _).trans (by simp only [ge_dec (drop_ge hd), ge0, Bool.and_self, Bool.true_and, cond_true, cond_false, List.length_set] <;> rfl)) ev_some
  | uu :: rest, l, out, i, hd, hl => ev_step (T := fun f => bif trPre uu then bif decide ((out.length + [uu].length) * 80 ≤ 140737488355328) then L_cpd_0 f (l, out ++ [uu], (↑(i + 1) : Int)) else none else none) (fun f => (L_cpd_0_eq f _ _ _).trans (by simp only [lt_dec (drop_lt hd), drop_get hd, wrap_succ (drop_lt hd) hl, getD_set (drop_lt hd), ge0, Bool.and_self, Bool.true_and, cond_true, cond_false, List.length_set] <;> rfl)) (ev_chk (ev_chk (A_cpd_0 rest _ _ _ (by first | exact drop_succ hd | exact drop_set hd | exact drop_setS (drop_set hd)) (by first | exact hl | simpa using hl))))
noncomputable def F_cpd : (List (STr)) → (List (STr))
  | l => F_cpd_0 l (l, [], 0)
noncomputable def P_cpd : (List (STr)) → Bool
  | l => decide (l.length ≤ 1099511627776) && P_cpd_0 l (l, [], 0)
theorem cpd_auto : ∀ a : (List (STr)), Rns (fun f => M_cpd f a) (P_cpd a) (F_cpd a)
  | l => ev_step (fun f => M_cpd_eq f _) (ev_and fun hh => A_cpd_0 _ _ _ _ rfl (of_decide_eq_true hh))
theorem cpd_0 (l : List STr) : ∀ (r out : List STr) (k : Nat), (∀ e ∈ r, trPre e = true) → out.length + r.length ≤ 68719476736 → F_cpd_0 r (l, out, k) = out ++ r ∧ P_cpd_0 r (l, out, k) = true
  | [], out, k, h, hl => ⟨by simp [F_cpd_0], rfl⟩
  | u :: r, out, k, h, hl => by
    simp only [List.length_cons] at hl
    obtain ⟨i1, i2⟩ := cpd_0 l r (out ++ [u]) (k + 1) (fun e he => h e (List.mem_cons_of_mem _ he)) (by simp; omega)
    simp only [F_cpd_0, P_cpd_0, i1, i2, h u (List.mem_cons_self ..), Bool.true_and, Bool.and_true, decide_eq_true_eq, List.append_assoc, List.singleton_append, true_and]
    simp only [List.length_singleton]; omega
theorem cpd_P : ∀ a : List STr, okL a = true → P_cpd a = true := fun a h => by
  simp only [P_cpd, (cpd_0 a a [] 0 (fun e he => okL_mem h he) (by simpa using okL_len h)).2, Bool.and_true]
  exact decide_eq_true (by have := okL_len h; omega)
theorem cpd_F : ∀ a : List STr, okL a = true → F_cpd a = (fun a => a) a := fun a h => by
  simp only [F_cpd, (cpd_0 a a [] 0 (fun e he => okL_mem h he) (by simpa using okL_len h)).1, List.nil_append]
theorem cpd_run : ∀ a, (okL : (List (STr)) → Bool) a = true → ∃ f, M_cpd f a = some ((fun a => a : (List (STr)) → (List (STr))) a) := fun a h => by have h1 := cpd_auto a (cpd_P a h); rw [cpd_F a h] at h1; exact h1
noncomputable def E_cpd : Ent := ⟨37, [.rd tSTr], [.o 45 6 tSTr], fun a => (okL : (List (STr)) → Bool) a, fun a => (fun a => a : (List (STr)) → (List (STr))) a⟩
theorem E_cpd_ok : E_cpd.Ok Try.prog := fun a hp vs hv => (cpd_run a hp).elim fun f h => fnX_ok (C := C_cpd) (Lt := Lt_cpd) (fn := Try.f37) (rs := [.tmp 2]) [.rd tSTr] [.o 45 6 tSTr] mixed es_cpd Try.func37 rfl rfl rfl (by kernel_rfl) (by kernel_rfl) f h vs hv
def lokS (a : List STr × Int × Int) : STr × Bool := match a.1.find? (fun t => decide (t.1 = a.2.1) && decide (t.2.1 = a.2.2)) with
  | some t => (t, true)
  | none => ((0, 0, 0, 0, [], []), false)
theorem lokS_cons (u : STr) (r : List STr) (x y : Int) : lokS (u :: r, x, y) = bif u.1 == x then bif u.2.1 == y then (u, true) else lokS (r, x, y) else lokS (r, x, y) := by
  simp only [lokS, List.find?_cons, beqI]
  cases decide (u.1 = x) <;> cases decide (u.2.1 = y) <;> rfl
noncomputable def C_look : Cfg := ⟨Try.prog, [E_ctr], pmT [], 30, [], []⟩
theorem es_look : EsOk Try.prog [E_ctr] [] := es_cons E_ctr_ok (es_nil)
def Lt_look : Nat → LD := ldT [(0, ⟨[.c 1 (.int .i64), .c 2 (.int .i64), .box 6 6 45 6 tSTr, .rd 10 tSTr, .c 11 (.int .i64), .c 12 (.int .i64)], []⟩)]
noncomputable def M_look (f : Nat) (a : (List (STr)) × Int × Int) : Option (STr × Bool) := (runX (C_look) Lt_look (Kret Try.prog [.cell 6 45, .tmp 7] [.g tSTr, .v (.bool)]) f [.code (bodyOf Try.f36)] (initX [.rd tSTr, .c (.int .i64), .c (.int .i64)] a) : Option (ResT [.g tSTr, .v (.bool)]))
noncomputable def L_look_0 (f : Nat) (x : Int × Int × STr × (List (STr)) × Int × Int) : Option (STr × Bool) := (runX (C_look) Lt_look (Kret Try.prog [.cell 6 45, .tmp 7] [.g tSTr, .v (.bool)]) f (headOf Try.f36 0) ((Lt_look 0).mk' x) : Option (ResT [.g tSTr, .v (.bool)]))
theorem M_look_eq (f : Nat) (tlb : List (STr)) (root : Int) (page : Int) : M_look (f + 1) (tlb, root, page) =
    L_look_0 f (root, page, (0, 0, 0, 0, [], []), tlb, (↑tlb.length : Int), 0) := by kernel_rfl
theorem L_look_0_eq (f : Nat) (root : Int) (page : Int) (x6 : STr) (x10 : List (STr)) (x11 : Int) (x12 : Int) : L_look_0 (f + 1) (root, page, x6, x10, x11, x12) =
    bif decide (x12 < x11) then bif decide (0 ≤ x12) && decide (x12 < (↑x10.length : Int)) then bif (x10.getD x12.toNat (0, 0, 0, 0, [], [])).1 == root then bif (x10.getD x12.toNat (0, 0, 0, 0, [], [])).2.1 == page then bif len40n (x10.getD x12.toNat (0, 0, 0, 0, [], [])).2.2.2.2.1 && len40n (x10.getD x12.toNat (0, 0, 0, 0, [], [])).2.2.2.2.2 then some (x10.getD x12.toNat (0, 0, 0, 0, [], []), true) else none else L_look_0 f (root, page, x6, x10, x11, IntKind.i64.wrap (x12 + 1)) else L_look_0 f (root, page, x6, x10, x11, IntKind.i64.wrap (x12 + 1)) else none else some ((0, 0, 0, 0, [], []), false) := by kernel_rfl
noncomputable def F_look_0 : List (STr) → (Int × Int × STr × (List (STr)) × Int × Nat) → STr × Bool
  | [], (root, page, x6, x10, x11, x12) => ((0, 0, 0, 0, [], []), false)
  | uu :: rest, (root, page, x6, x10, x11, x12) => bif uu.1 == root then bif uu.2.1 == page then (uu, true) else F_look_0 rest (root, page, x6, x10, x11, x12 + 1) else F_look_0 rest (root, page, x6, x10, x11, x12 + 1)
noncomputable def P_look_0 : List (STr) → (Int × Int × STr × (List (STr)) × Int × Nat) → Bool
  | [], (root, page, x6, x10, x11, x12) => true
  | uu :: rest, (root, page, x6, x10, x11, x12) => bif uu.1 == root then bif uu.2.1 == page then len40n uu.2.2.2.2.1 && len40n uu.2.2.2.2.2 else P_look_0 rest (root, page, x6, x10, x11, x12 + 1) else P_look_0 rest (root, page, x6, x10, x11, x12 + 1)
theorem A_look_0 : ∀ (rest : List (STr)) (root : Int) (page : Int) (x6 : STr) (x10 : List (STr)) (x11 : Int) (x12 : Nat) (hd : x10.drop x12 = rest) (hn : x11 = ((x10.length : Nat) : Int)) (hl : x10.length ≤ 1099511627776), Rns (fun f => L_look_0 f (root, page, x6, x10, x11, ((x12 : Nat) : Int))) (P_look_0 rest (root, page, x6, x10, x11, x12)) (F_look_0 rest (root, page, x6, x10, x11, x12))
  | [], root, page, x6, x10, x11, x12, hd, hn, hl => ev_step (T := fun f => some ((0, 0, 0, 0, [], []), false)) (fun f => (L_look_0_eq f _ _ _ _ _ _).trans (by simp only [ge_decn hn (drop_ge hd), ge0, Bool.and_self, Bool.true_and, cond_true, cond_false, List.length_set] <;> rfl)) ev_some
  | uu :: rest, root, page, x6, x10, x11, x12, hd, hn, hl => ev_step (T := fun f => bif uu.1 == root then bif uu.2.1 == page then bif len40n uu.2.2.2.2.1 && len40n uu.2.2.2.2.2 then some (uu, true) else none else L_look_0 f (root, page, x6, x10, x11, (↑(x12 + 1) : Int)) else L_look_0 f (root, page, x6, x10, x11, (↑(x12 + 1) : Int))) (fun f => (L_look_0_eq f _ _ _ _ _ _).trans (by simp only [lt_decn hn (drop_lt hd), lt_dec (drop_lt hd), drop_get hd, wrap_succ (drop_lt hd) hl, getD_set (drop_lt hd), ge0, Bool.and_self, Bool.true_and, cond_true, cond_false, List.length_set] <;> rfl)) (ev_bif (ev_bif (ev_chk1 ev_some) (A_look_0 rest _ _ _ _ _ _ (by first | exact drop_succ hd | exact drop_set hd | exact drop_setS (drop_set hd)) (by first | exact hn | simpa using hn) (by first | exact hl | simpa using hl))) (A_look_0 rest _ _ _ _ _ _ (by first | exact drop_succ hd | exact drop_set hd | exact drop_setS (drop_set hd)) (by first | exact hn | simpa using hn) (by first | exact hl | simpa using hl)))
noncomputable def F_look : ((List (STr)) × Int × Int) → STr × Bool
  | (tlb, root, page) => F_look_0 tlb (root, page, (0, 0, 0, 0, [], []), tlb, (↑tlb.length : Int), 0)
noncomputable def P_look : ((List (STr)) × Int × Int) → Bool
  | (tlb, root, page) => decide (tlb.length ≤ 1099511627776) && P_look_0 tlb (root, page, (0, 0, 0, 0, [], []), tlb, (↑tlb.length : Int), 0)
theorem look_auto : ∀ a : (List (STr)) × Int × Int, Rns (fun f => M_look f a) (P_look a) (F_look a)
  | (tlb, root, page) => ev_step (fun f => M_look_eq f _ _ _) (ev_and fun hh => A_look_0 _ _ _ _ _ _ _ rfl (by first | rfl | simp) (of_decide_eq_true hh))
theorem look_0 (x y : Int) (a6 : STr) (a10 : List STr) (a11 : Int) : ∀ (r : List STr) (k : Nat), (∀ e ∈ r, trPre e = true) → F_look_0 r (x, y, a6, a10, a11, k) = lokS (r, x, y) ∧ P_look_0 r (x, y, a6, a10, a11, k) = true
  | [], k, h => ⟨rfl, rfl⟩
  | u :: r, k, h => by
    obtain ⟨i1, i2⟩ := look_0 x y a6 a10 a11 r (k + 1) (fun e he => h e (List.mem_cons_of_mem _ he))
    have hu := tr40 (h u (List.mem_cons_self ..))
    simp only [F_look_0, P_look_0, i1, i2, lokS_cons, hu]
    cases u.1 == x <;> cases u.2.1 == y <;> first | exact ⟨rfl, trivial⟩ | exact ⟨trivial, trivial⟩ | exact ⟨trivial, rfl⟩ | exact ⟨rfl, rfl⟩
theorem look_P : ∀ a : List STr × Int × Int, (fun a : List STr × Int × Int => okL a.1) a = true → P_look a = true := fun a h => by
  have h : okL a.1 = true := h
  simp only [P_look, (look_0 a.2.1 a.2.2 _ _ _ a.1 0 (fun e he => okL_mem h he)).2, Bool.and_true]
  exact decide_eq_true (by have := okL_len h; omega)
theorem look_F : ∀ a : List STr × Int × Int, (fun a : List STr × Int × Int => okL a.1) a = true → F_look a = lokS a := fun a h => by
  have h : okL a.1 = true := h
  simp only [F_look, (look_0 a.2.1 a.2.2 _ _ _ a.1 0 (fun e he => okL_mem h he)).1]
theorem look_run : ∀ a, (fun a => okL a.1 : (List (STr)) × Int × Int → Bool) a = true → ∃ f, M_look f a = some ((lokS : (List (STr)) × Int × Int → STr × Bool) a) := fun a h => by have h1 := look_auto a (look_P a h); rw [look_F a h] at h1; exact h1
noncomputable def E_look : Ent := ⟨36, [.rd tSTr, .c (.int .i64), .c (.int .i64)], [.g tSTr, .v (.bool)], fun a => (fun a => okL a.1 : (List (STr)) × Int × Int → Bool) a, fun a => (lokS : (List (STr)) × Int × Int → STr × Bool) a⟩
theorem E_look_ok : E_look.Ok Try.prog := fun a hp vs hv => (look_run a hp).elim fun f h => fnX_ok (C := C_look) (Lt := Lt_look) (fn := Try.f36) (rs := [.cell 6 45, .tmp 7]) [.rd tSTr, .c (.int .i64), .c (.int .i64)] [.g tSTr, .v (.bool)] mixed es_look Try.func36 rfl rfl rfl (by kernel_rfl) (by kernel_rfl) f h vs hv
noncomputable def C_rlook : Cfg := ⟨Try.prog, [E_rctr], pmT [], 37, [], []⟩
theorem es_rlook : EsOk Try.prog [E_rctr] [] := es_cons E_rctr_ok (es_nil)
def Lt_rlook : Nat → LD := ldT [(0, ⟨[.rd 0 tSTr, .c 1 (.int .i64), .c 2 (.int .i64), .box 6 6 45 6 tSTr, .c 8 (.int .i64)], []⟩)]
noncomputable def M_rlook (f : Nat) (a : (List (STr)) × Int × Int) : Option (STr × Bool) := (runX (C_rlook) Lt_rlook (Kret Try.prog [.cell 6 45, .tmp 7] [.g tSTr, .v (.bool)]) f [.code (bodyOf Try.f38)] (initX [.rd tSTr, .c (.int .i64), .c (.int .i64)] a) : Option (ResT [.g tSTr, .v (.bool)]))
noncomputable def L_rlook_0 (f : Nat) (x : (List (STr)) × Int × Int × STr × Int) : Option (STr × Bool) := (runX (C_rlook) Lt_rlook (Kret Try.prog [.cell 6 45, .tmp 7] [.g tSTr, .v (.bool)]) f (headOf Try.f38 0) ((Lt_rlook 0).mk' x) : Option (ResT [.g tSTr, .v (.bool)]))
theorem M_rlook_eq (f : Nat) (tlb : List (STr)) (root : Int) (page : Int) : M_rlook (f + 1) (tlb, root, page) =
    L_rlook_0 f (tlb, root, page, (0, 0, 0, 0, [], []), 0) := by kernel_rfl
theorem L_rlook_0_eq (f : Nat) (tlb : List (STr)) (root : Int) (page : Int) (x6 : STr) (i : Int) : L_rlook_0 (f + 1) (tlb, root, page, x6, i) =
    bif decide (i < (↑tlb.length : Int)) then bif decide (0 ≤ i) && decide (i < (↑tlb.length : Int)) then bif (tlb.getD i.toNat (0, 0, 0, 0, [], [])).1 == root then bif decide (0 ≤ i) && decide (i < (↑tlb.length : Int)) then bif (tlb.getD i.toNat (0, 0, 0, 0, [], [])).2.1 == page then bif decide (0 ≤ i) && decide (i < (↑tlb.length : Int)) then bif trPre (tlb.getD i.toNat (0, 0, 0, 0, [], [])) then some (tlb.getD i.toNat (0, 0, 0, 0, [], []), true) else none else none else L_rlook_0 f (tlb, root, page, x6, IntKind.i64.wrap (i + 1)) else none else L_rlook_0 f (tlb, root, page, x6, IntKind.i64.wrap (i + 1)) else none else some ((0, 0, 0, 0, [], []), false) := by kernel_rfl
noncomputable def F_rlook_0 : List (STr) → ((List (STr)) × Int × Int × STr × Nat) → STr × Bool
  | [], (tlb, root, page, x6, i) => ((0, 0, 0, 0, [], []), false)
  | uu :: rest, (tlb, root, page, x6, i) => bif uu.1 == root then bif uu.2.1 == page then (uu, true) else F_rlook_0 rest (tlb, root, page, x6, i + 1) else F_rlook_0 rest (tlb, root, page, x6, i + 1)
noncomputable def P_rlook_0 : List (STr) → ((List (STr)) × Int × Int × STr × Nat) → Bool
  | [], (tlb, root, page, x6, i) => true
  | uu :: rest, (tlb, root, page, x6, i) => bif uu.1 == root then bif uu.2.1 == page then trPre uu else P_rlook_0 rest (tlb, root, page, x6, i + 1) else P_rlook_0 rest (tlb, root, page, x6, i + 1)
theorem A_rlook_0 : ∀ (rest : List (STr)) (tlb : List (STr)) (root : Int) (page : Int) (x6 : STr) (i : Nat) (hd : tlb.drop i = rest) (hl : tlb.length ≤ 1099511627776), Rns (fun f => L_rlook_0 f (tlb, root, page, x6, ((i : Nat) : Int))) (P_rlook_0 rest (tlb, root, page, x6, i)) (F_rlook_0 rest (tlb, root, page, x6, i))
  | [], tlb, root, page, x6, i, hd, hl => ev_step (T := fun f => some ((0, 0, 0, 0, [], []), false)) (fun f => (L_rlook_0_eq f _ _ _ _ _).trans (by simp only [ge_dec (drop_ge hd), ge0, Bool.and_self, Bool.true_and, cond_true, cond_false, List.length_set] <;> rfl)) ev_some
  | uu :: rest, tlb, root, page, x6, i, hd, hl => ev_step (T := fun f => bif uu.1 == root then bif uu.2.1 == page then bif trPre uu then some (uu, true) else none else L_rlook_0 f (tlb, root, page, x6, (↑(i + 1) : Int)) else L_rlook_0 f (tlb, root, page, x6, (↑(i + 1) : Int))) (fun f => (L_rlook_0_eq f _ _ _ _ _).trans (by simp only [lt_dec (drop_lt hd), drop_get hd, wrap_succ (drop_lt hd) hl, getD_set (drop_lt hd), ge0, Bool.and_self, Bool.true_and, cond_true, cond_false, List.length_set] <;> rfl)) (ev_bif (ev_bif (ev_chk1 ev_some) (A_rlook_0 rest _ _ _ _ _ (by first | exact drop_succ hd | exact drop_set hd | exact drop_setS (drop_set hd)) (by first | exact hl | simpa using hl))) (A_rlook_0 rest _ _ _ _ _ (by first | exact drop_succ hd | exact drop_set hd | exact drop_setS (drop_set hd)) (by first | exact hl | simpa using hl)))
noncomputable def F_rlook : ((List (STr)) × Int × Int) → STr × Bool
  | (tlb, root, page) => F_rlook_0 tlb (tlb, root, page, (0, 0, 0, 0, [], []), 0)
noncomputable def P_rlook : ((List (STr)) × Int × Int) → Bool
  | (tlb, root, page) => decide (tlb.length ≤ 1099511627776) && P_rlook_0 tlb (tlb, root, page, (0, 0, 0, 0, [], []), 0)
theorem rlook_auto : ∀ a : (List (STr)) × Int × Int, Rns (fun f => M_rlook f a) (P_rlook a) (F_rlook a)
  | (tlb, root, page) => ev_step (fun f => M_rlook_eq f _ _ _) (ev_and fun hh => A_rlook_0 _ _ _ _ _ _ rfl (of_decide_eq_true hh))
theorem rlook_0 (x y : Int) (a6 : STr) (a10 : List STr) : ∀ (r : List STr) (k : Nat), (∀ e ∈ r, trPre e = true) → F_rlook_0 r (a10, x, y, a6, k) = lokS (r, x, y) ∧ P_rlook_0 r (a10, x, y, a6, k) = true
  | [], k, h => ⟨rfl, rfl⟩
  | u :: r, k, h => by
    obtain ⟨i1, i2⟩ := rlook_0 x y a6 a10 r (k + 1) (fun e he => h e (List.mem_cons_of_mem _ he))
    have hu : trPre u = true := h u (List.mem_cons_self ..)
    simp only [F_rlook_0, P_rlook_0, i1, i2, lokS_cons, hu]
    cases u.1 == x <;> cases u.2.1 == y <;> first | exact ⟨rfl, trivial⟩ | exact ⟨trivial, trivial⟩ | exact ⟨trivial, rfl⟩ | exact ⟨rfl, rfl⟩
theorem rlook_P : ∀ a : List STr × Int × Int, (fun a : List STr × Int × Int => okL a.1) a = true → P_rlook a = true := fun a h => by
  have h : okL a.1 = true := h
  simp only [P_rlook, (rlook_0 a.2.1 a.2.2 _ _ a.1 0 (fun e he => okL_mem h he)).2, Bool.and_true]
  exact decide_eq_true (by have := okL_len h; omega)
theorem rlook_F : ∀ a : List STr × Int × Int, (fun a : List STr × Int × Int => okL a.1) a = true → F_rlook a = lokS a := fun a h => by
  have h : okL a.1 = true := h
  simp only [F_rlook, (rlook_0 a.2.1 a.2.2 _ _ a.1 0 (fun e he => okL_mem h he)).1]
theorem rlook_run : ∀ a, (fun a => okL a.1 : (List (STr)) × Int × Int → Bool) a = true → ∃ f, M_rlook f a = some ((lokS : (List (STr)) × Int × Int → STr × Bool) a) := fun a h => by have h1 := rlook_auto a (rlook_P a h); rw [rlook_F a h] at h1; exact h1
noncomputable def E_rlook : Ent := ⟨38, [.rd tSTr, .c (.int .i64), .c (.int .i64)], [.g tSTr, .v (.bool)], fun a => (fun a => okL a.1 : (List (STr)) × Int × Int → Bool) a, fun a => (lokS : (List (STr)) × Int × Int → STr × Bool) a⟩
theorem E_rlook_ok : E_rlook.Ok Try.prog := fun a hp vs hv => (rlook_run a hp).elim fun f h => fnX_ok (C := C_rlook) (Lt := Lt_rlook) (fn := Try.f38) (rs := [.cell 6 45, .tmp 7]) [.rd tSTr, .c (.int .i64), .c (.int .i64)] [.g tSTr, .v (.bool)] mixed es_rlook Try.func38 rfl rfl rfl (by kernel_rfl) (by kernel_rfl) f h vs hv
noncomputable def C_rfil : Cfg := ⟨Try.prog, [E_rctr], pmT [(5, ([(0, []), (1, []), (2, []), (3, []), (4, []), (5, []), (6, []), (7, []), (8, []), (9, []), (10, []), (11, []), (12, []), (13, []), (14, []), (15, []), (16, []), (17, [])], [(13, 30)]))], 53, [], [(43, tSTr)]⟩
theorem es_rfil : EsOk Try.prog [E_rctr] [] := es_cons E_rctr_ok (es_nil)
def Lt_rfil : Nat → LD := ldT [(0, ⟨[.rd 0 tSTr, .box 3 3 45 6 tSTr, .list 5 999 45 6 tSTr, .c 6 (.int .i64)], []⟩)]
noncomputable def M_rfil (f : Nat) (a : (List (STr)) × STr) : Option ((List (STr))) := (runX (C_rfil) Lt_rfil (Kret Try.prog [.tmp 4] [.v (.sl tSTr)]) f [.code (bodyOf Try.f43)] (initX [.rd tSTr, .g tSTr] a) : Option (ResT [.v (.sl tSTr)]))
noncomputable def L_rfil_0 (f : Nat) (x : (List (STr)) × STr × (List (STr)) × Int) : Option ((List (STr))) := (runX (C_rfil) Lt_rfil (Kret Try.prog [.tmp 4] [.v (.sl tSTr)]) f (headOf Try.f43 0) ((Lt_rfil 0).mk' x) : Option (ResT [.v (.sl tSTr)]))
theorem M_rfil_eq (f : Nat) (tlb : List (STr)) (t : STr) : M_rfil (f + 1) (tlb, t) =
    L_rfil_0 f (tlb, t, [], 0) := by kernel_rfl
theorem L_rfil_0_eq (f : Nat) (tlb : List (STr)) (t : STr) (out : List (STr)) (i : Int) : L_rfil_0 (f + 1) (tlb, t, out, i) =
    bif decide (i < (↑tlb.length : Int)) then bif decide (0 ≤ i) && decide (i < (↑tlb.length : Int)) then bif (tlb.getD i.toNat (0, 0, 0, 0, [], [])).1 != t.1 then bif decide (0 ≤ i) && decide (i < (↑tlb.length : Int)) then bif trPre (tlb.getD i.toNat (0, 0, 0, 0, [], [])) then bif decide ((out.length + [tlb.getD i.toNat (0, 0, 0, 0, [], [])].length) * 80 ≤ 140737488355328) then L_rfil_0 f (tlb, t, out ++ [tlb.getD i.toNat (0, 0, 0, 0, [], [])], IntKind.i64.wrap (i + 1)) else none else none else none else bif decide (0 ≤ i) && decide (i < (↑tlb.length : Int)) then bif (tlb.getD i.toNat (0, 0, 0, 0, [], [])).2.1 != t.2.1 then bif decide (0 ≤ i) && decide (i < (↑tlb.length : Int)) then bif trPre (tlb.getD i.toNat (0, 0, 0, 0, [], [])) then bif decide ((out.length + [tlb.getD i.toNat (0, 0, 0, 0, [], [])].length) * 80 ≤ 140737488355328) then L_rfil_0 f (tlb, t, out ++ [tlb.getD i.toNat (0, 0, 0, 0, [], [])], IntKind.i64.wrap (i + 1)) else none else none else none else L_rfil_0 f (tlb, t, out, IntKind.i64.wrap (i + 1)) else none else none else bif trPre t then bif decide ((out.length + [t].length) * 80 ≤ 140737488355328) then bif decide ((↑(out ++ [t]).length : Int) > 8) then bif decide (0 ≤ IntKind.i64.wrap ((↑(out ++ [t]).length : Int) - 8)) && decide (IntKind.i64.wrap ((↑(out ++ [t]).length : Int) - 8) ≤ (↑(out ++ [t]).length : Int)) then some (List.drop (IntKind.i64.wrap ((↑(out ++ [t]).length : Int) - 8)).toNat (out ++ [t])) else none else some (out ++ [t]) else none else none := by kernel_rfl
noncomputable def F_rfil_0 : List (STr) → ((List (STr)) × STr × (List (STr)) × Nat) → (List (STr))
  | [], (tlb, t, out, i) => bif decide ((↑(out ++ [t]).length : Int) > 8) then List.drop (IntKind.i64.wrap ((↑(out ++ [t]).length : Int) - 8)).toNat (out ++ [t]) else out ++ [t]
  | uu :: rest, (tlb, t, out, i) => bif uu.1 != t.1 then F_rfil_0 rest (tlb, t, out ++ [uu], i + 1) else bif uu.2.1 != t.2.1 then F_rfil_0 rest (tlb, t, out ++ [uu], i + 1) else F_rfil_0 rest (tlb, t, out, i + 1)
noncomputable def P_rfil_0 : List (STr) → ((List (STr)) × STr × (List (STr)) × Nat) → Bool
  | [], (tlb, t, out, i) => trPre t && (decide ((out.length + [t].length) * 80 ≤ 140737488355328) && bif decide ((↑(out ++ [t]).length : Int) > 8) then decide (0 ≤ IntKind.i64.wrap ((↑(out ++ [t]).length : Int) - 8)) && decide (IntKind.i64.wrap ((↑(out ++ [t]).length : Int) - 8) ≤ (↑(out ++ [t]).length : Int)) else true)
  | uu :: rest, (tlb, t, out, i) => bif uu.1 != t.1 then trPre uu && (decide ((out.length + [uu].length) * 80 ≤ 140737488355328) && P_rfil_0 rest (tlb, t, out ++ [uu], i + 1)) else bif uu.2.1 != t.2.1 then trPre uu && (decide ((out.length + [uu].length) * 80 ≤ 140737488355328) && P_rfil_0 rest (tlb, t, out ++ [uu], i + 1)) else P_rfil_0 rest (tlb, t, out, i + 1)
theorem A_rfil_0 : ∀ (rest : List (STr)) (tlb : List (STr)) (t : STr) (out : List (STr)) (i : Nat) (hd : tlb.drop i = rest) (hl : tlb.length ≤ 1099511627776), Rns (fun f => L_rfil_0 f (tlb, t, out, ((i : Nat) : Int))) (P_rfil_0 rest (tlb, t, out, i)) (F_rfil_0 rest (tlb, t, out, i))
  | [], tlb, t, out, i, hd, hl => ev_step (T := fun f => bif trPre t then bif decide ((out.length + [t].length) * 80 ≤ 140737488355328) then bif decide ((↑(out ++ [t]).length : Int) > 8) then bif decide (0 ≤ IntKind.i64.wrap ((↑(out ++ [t]).length : Int) - 8)) && decide (IntKind.i64.wrap ((↑(out ++ [t]).length : Int) - 8) ≤ (↑(out ++ [t]).length : Int)) then some (List.drop (IntKind.i64.wrap ((↑(out ++ [t]).length : Int) - 8)).toNat (out ++ [t])) else none else some (out ++ [t]) else none else none) (fun f => (L_rfil_0_eq f _ _ _ _).trans (by simp only [ge_dec (drop_ge hd), ge0, Bool.and_self, Bool.true_and, cond_true, cond_false, List.length_set] <;> rfl)) (ev_chk (ev_chk (ev_bif (ev_chk1 ev_some) ev_some)))
  | uu :: rest, tlb, t, out, i, hd, hl => ev_step (T := fun f => bif uu.1 != t.1 then bif trPre uu then bif decide ((out.length + [uu].length) * 80 ≤ 140737488355328) then L_rfil_0 f (tlb, t, out ++ [uu], (↑(i + 1) : Int)) else none else none else bif uu.2.1 != t.2.1 then bif trPre uu then bif decide ((out.length + [uu].length) * 80 ≤ 140737488355328) then L_rfil_0 f (tlb, t, out ++ [uu], (↑(i + 1) : Int)) else none else none else L_rfil_0 f (tlb, t, out, (↑(i + 1) : Int))) (fun f => (L_rfil_0_eq f _ _ _ _).trans (by simp only [lt_dec (drop_lt hd), drop_get hd, wrap_succ (drop_lt hd) hl, getD_set (drop_lt hd), ge0, Bool.and_self, Bool.true_and, cond_true, cond_false, List.length_set] <;> rfl)) (ev_bif (ev_chk (ev_chk (A_rfil_0 rest _ _ _ _ (by first | exact drop_succ hd | exact drop_set hd | exact drop_setS (drop_set hd)) (by first | exact hl | simpa using hl)))) (ev_bif (ev_chk (ev_chk (A_rfil_0 rest _ _ _ _ (by first | exact drop_succ hd | exact drop_set hd | exact drop_setS (drop_set hd)) (by first | exact hl | simpa using hl)))) (A_rfil_0 rest _ _ _ _ (by first | exact drop_succ hd | exact drop_set hd | exact drop_setS (drop_set hd)) (by first | exact hl | simpa using hl))))
noncomputable def F_rfil : ((List (STr)) × STr) → (List (STr))
  | (tlb, t) => F_rfil_0 tlb (tlb, t, [], 0)
noncomputable def P_rfil : ((List (STr)) × STr) → Bool
  | (tlb, t) => decide (tlb.length ≤ 1099511627776) && P_rfil_0 tlb (tlb, t, [], 0)
theorem rfil_auto : ∀ a : (List (STr)) × STr, Rns (fun f => M_rfil f a) (P_rfil a) (F_rfil a)
  | (tlb, t) => ev_step (fun f => M_rfil_eq f _ _) (ev_and fun hh => A_rfil_0 _ _ _ _ _ rfl (of_decide_eq_true hh))
theorem rfil_0 (l : List STr) (t : STr) (ht : trPre t = true) : ∀ (r out : List STr) (k : Nat), (∀ e ∈ r, trPre e = true) → out.length + r.length ≤ 68719476736 → F_rfil_0 r (l, t, out, k) = cutL (out ++ r.filter (keepF t) ++ [t]) ∧ P_rfil_0 r (l, t, out, k) = true
  | [], out, k, h, hl => by
    have hl : out.length ≤ 68719476736 := by simpa using hl
    have e : (out ++ [t]).length = out.length + 1 := by simp
    have w := cut_n (out ++ [t]).length (by omega)
    simp only [F_rfil_0, P_rfil_0, w, ht, Bool.true_and, List.filter_nil, List.append_nil, cutL, List.length_singleton]
    by_cases h8 : (((out ++ [t]).length : Nat) : Int) > 8
    · rw [decide_eq_true h8]
      simp only [cond_true, Bool.and_eq_true, decide_eq_true_eq]
      exact ⟨by congr 1; omega, by omega, by omega, by omega⟩
    · rw [decide_eq_false h8]
      simp only [cond_false, Bool.and_eq_true, decide_eq_true_eq]
      exact ⟨by rw [show (out ++ [t]).length - 8 = 0 by omega, List.drop_zero], by omega, trivial⟩
  | u :: r, out, k, h, hl => by
    simp only [List.length_cons] at hl
    have hu := h u (List.mem_cons_self ..)
    obtain ⟨i1, i2⟩ := rfil_0 l t ht r (out ++ [u]) (k + 1) (fun e he => h e (List.mem_cons_of_mem _ he)) (by simp; omega)
    obtain ⟨j1, j2⟩ := rfil_0 l t ht r out (k + 1) (fun e he => h e (List.mem_cons_of_mem _ he)) (by omega)
    have e80 : decide ((out.length + [u].length) * 80 ≤ 140737488355328) = true := decide_eq_true (by simp only [List.length_singleton]; omega)
    simp only [F_rfil_0, P_rfil_0, i1, i2, j1, j2, hu, e80, Bool.true_and, Bool.and_self, List.filter_cons]
    cases c1 : u.1 != t.1 <;> cases c2 : u.2.1 != t.2.1
    · rw [show keepF t u = false by simp only [keepF, c1, c2]; rfl]; exact ⟨rfl, rfl⟩
    all_goals
      rw [show keepF t u = true by simp only [keepF, c1, c2]; rfl]
      refine ⟨?_, rfl⟩
      simp only [if_true, cond_true, cond_false, List.append_assoc, List.singleton_append, List.cons_append, List.nil_append]
theorem rfil_P : ∀ a : List STr × STr, filPre a = true → P_rfil a = true := fun a h => by
  obtain ⟨h1, h2⟩ := Bool.and_eq_true_iff.1 h
  simp only [P_rfil, (rfil_0 a.1 a.2 h2 a.1 [] 0 (fun e he => okL_mem h1 he) (by simpa using okL_len h1)).2, Bool.and_true]
  exact decide_eq_true (by have := okL_len h1; omega)
theorem rfil_F : ∀ a : List STr × STr, filPre a = true → F_rfil a = filS a := fun a h => by
  obtain ⟨h1, h2⟩ := Bool.and_eq_true_iff.1 h
  simp only [F_rfil, (rfil_0 a.1 a.2 h2 a.1 [] 0 (fun e he => okL_mem h1 he) (by simpa using okL_len h1)).1, List.nil_append, filS]
theorem rfil_run : ∀ a, (filPre : (List (STr)) × STr → Bool) a = true → ∃ f, M_rfil f a = some ((filS : (List (STr)) × STr → (List (STr))) a) := fun a h => by have h1 := rfil_auto a (rfil_P a h); rw [rfil_F a h] at h1; exact h1
noncomputable def E_rfil : Ent := ⟨43, [.rd tSTr, .g tSTr], [.v (.sl tSTr)], fun a => (filPre : (List (STr)) × STr → Bool) a, fun a => (filS : (List (STr)) × STr → (List (STr))) a⟩
theorem E_rfil_ok : E_rfil.Ok Try.prog := fun a hp vs hv => (rfil_run a hp).elim fun f h => fnX_ok (C := C_rfil) (Lt := Lt_rfil) (fn := Try.f43) (rs := [.tmp 4]) [.rd tSTr, .g tSTr] [.v (.sl tSTr)] mixed es_rfil Try.func43 rfl rfl rfl (by kernel_rfl) (by kernel_rfl) f h vs hv
noncomputable def C_stlb : Cfg := ⟨Try.prog, [E_str], pmT [(6, ([(0, []), (1, []), (2, []), (3, []), (4, []), (5, []), (6, []), (7, []), (8, []), (9, [])], [(17, 26)]))], 27, [], []⟩
theorem es_stlb : EsOk Try.prog [E_str] [] := es_cons E_str_ok (es_nil)
def Lt_stlb : Nat → LD := ldT [(0, ⟨[.rd 0 tSTr, .rd 1 tSTr, .c 5 (.int .i64)], []⟩)]
noncomputable def M_stlb (f : Nat) (a : (List (STr)) × (List (STr))) : Option (Bool) := (runX (C_stlb) Lt_stlb (Kret Try.prog [.tmp 4] [.v (.bool)]) f [.code (bodyOf Try.f40)] (initX [.rd tSTr, .rd tSTr] a) : Option (ResT [.v (.bool)]))
noncomputable def L_stlb_0 (f : Nat) (x : (List (STr)) × (List (STr)) × Int) : Option (Bool) := (runX (C_stlb) Lt_stlb (Kret Try.prog [.tmp 4] [.v (.bool)]) f (headOf Try.f40 0) ((Lt_stlb 0).mk' x) : Option (ResT [.v (.bool)]))
theorem M_stlb_eq (f : Nat) (a : List (STr)) (b : List (STr)) : M_stlb (f + 1) (a, b) =
    bif (↑a.length : Int) != (↑b.length : Int) then some false else L_stlb_0 f (a, b, 0) := by kernel_rfl
theorem L_stlb_0_eq (f : Nat) (a : List (STr)) (b : List (STr)) (i : Int) : L_stlb_0 (f + 1) (a, b, i) =
    bif decide (i < (↑a.length : Int)) then bif decide (0 ≤ i) && decide (i < (↑a.length : Int)) then bif decide (0 ≤ i) && decide (i < (↑b.length : Int)) then bif strPre (a.getD i.toNat (0, 0, 0, 0, [], []), b.getD i.toNat (0, 0, 0, 0, [], [])) then bif !decide (a.getD i.toNat (0, 0, 0, 0, [], []) = b.getD i.toNat (0, 0, 0, 0, [], [])) then some false else L_stlb_0 f (a, b, IntKind.i64.wrap (i + 1)) else none else none else none else some true := by kernel_rfl
noncomputable def F_stlb_0 : List (STr) → ((List (STr)) × (List (STr)) × Nat) → Bool
  | [], (a, b, i) => true
  | uu :: rest, (a, b, i) => bif !decide (uu = b.getD (↑i : Int).toNat (0, 0, 0, 0, [], [])) then false else F_stlb_0 rest (a, b, i + 1)
noncomputable def P_stlb_0 : List (STr) → ((List (STr)) × (List (STr)) × Nat) → Bool
  | [], (a, b, i) => true
  | uu :: rest, (a, b, i) => decide ((↑i : Int) < (↑b.length : Int)) && (strPre (uu, b.getD (↑i : Int).toNat (0, 0, 0, 0, [], [])) && bif !decide (uu = b.getD (↑i : Int).toNat (0, 0, 0, 0, [], [])) then true else P_stlb_0 rest (a, b, i + 1))
theorem A_stlb_0 : ∀ (rest : List (STr)) (a : List (STr)) (b : List (STr)) (i : Nat) (hd : a.drop i = rest) (hl : a.length ≤ 1099511627776), Rns (fun f => L_stlb_0 f (a, b, ((i : Nat) : Int))) (P_stlb_0 rest (a, b, i)) (F_stlb_0 rest (a, b, i))
  | [], a, b, i, hd, hl => ev_step (T := fun f => some true) (fun f => (L_stlb_0_eq f _ _ _).trans (by simp only [ge_dec (drop_ge hd), ge0, Bool.and_self, Bool.true_and, cond_true, cond_false, List.length_set] <;> rfl)) ev_some
  | uu :: rest, a, b, i, hd, hl => ev_step (T := fun f => bif decide ((↑i : Int) < (↑b.length : Int)) then bif strPre (uu, b.getD (↑i : Int).toNat (0, 0, 0, 0, [], [])) then bif !decide (uu = b.getD (↑i : Int).toNat (0, 0, 0, 0, [], [])) then some false else L_stlb_0 f (a, b, (↑(i + 1) : Int)) else none else none) (fun f => (L_stlb_0_eq f _ _ _).trans (by simp only [lt_dec (drop_lt hd), drop_get hd, wrap_succ (drop_lt hd) hl, getD_set (drop_lt hd), ge0, Bool.and_self, Bool.true_and, cond_true, cond_false, List.length_set] <;> rfl)) (ev_chk (ev_chk (ev_bif ev_some (A_stlb_0 rest _ _ _ (by first | exact drop_succ hd | exact drop_set hd | exact drop_setS (drop_set hd)) (by first | exact hl | simpa using hl)))))
noncomputable def F_stlb : ((List (STr)) × (List (STr))) → Bool
  | (a, b) => bif (↑a.length : Int) != (↑b.length : Int) then false else F_stlb_0 a (a, b, 0)
noncomputable def P_stlb : ((List (STr)) × (List (STr))) → Bool
  | (a, b) => bif (↑a.length : Int) != (↑b.length : Int) then true else decide (a.length ≤ 1099511627776) && P_stlb_0 a (a, b, 0)
theorem stlb_auto : ∀ a : (List (STr)) × (List (STr)), Rns (fun f => M_stlb f a) (P_stlb a) (F_stlb a)
  | (a, b) => ev_step (fun f => M_stlb_eq f _ _) (ev_bif ev_some (ev_and fun hh => A_stlb_0 _ _ _ _ rfl (of_decide_eq_true hh)))
theorem stlb_0 (a b : List STr) : ∀ (r q p : List STr), b = p ++ q → q.length = r.length → (∀ e ∈ r, trPre e = true) → F_stlb_0 r (a, b, p.length) = decide (r = q) ∧ P_stlb_0 r (a, b, p.length) = true
  | [], q, p, hb, hq, h => by
    have : q = [] := List.eq_nil_of_length_eq_zero hq
    subst this
    exact ⟨rfl, rfl⟩
  | u :: r, [], p, hb, hq, h => by cases hq
  | u :: r, v :: q, p, hb, hq, h => by
    have hu : strPre (u, v) = true := tr40 (h u (List.mem_cons_self ..))
    obtain ⟨i1, i2⟩ := stlb_0 a b r q (p ++ [v]) (by rw [hb]; simp) (by simpa using hq) (fun e he => h e (List.mem_cons_of_mem _ he))
    have e1 : b.getD (Int.toNat ((p.length : Nat) : Int)) (0, 0, 0, 0, [], []) = v := by
      rw [hb, Int.toNat_natCast, List.getD_eq_getElem?_getD, List.getElem?_append_right (Nat.le_refl _)]; simp
    have e2 : (p ++ [v]).length = p.length + 1 := by simp
    rw [e2] at i1 i2
    simp only [F_stlb_0, P_stlb_0, e1, i1, i2, hu, Bool.true_and, decide_eq_true (show ((p.length : Nat) : Int) < ((b.length : Nat) : Int) by rw [hb]; simp; omega)]
    by_cases h1 : u = v
    · subst h1
      rw [decide_eq_true (show u = u from rfl)]
      refine ⟨?_, rfl⟩
      by_cases h2 : r = q
      · subst h2; simp
      · rw [decide_eq_false h2, decide_eq_false (by intro e; cases e; exact h2 rfl)]; rfl
    · rw [decide_eq_false h1, decide_eq_false (show ¬ u :: r = v :: q by intro e; cases e; exact h1 rfl)]
      exact ⟨rfl, rfl⟩
theorem stlb_both : ∀ a : List STr × List STr, okL a.1 = true → P_stlb a = true ∧ F_stlb a = decide (a.1 = a.2) := by
  rintro ⟨a, b⟩ h
  have h : okL a = true := h
  simp only [P_stlb, F_stlb]
  by_cases hl : (a.length : Int) = (b.length : Int)
  · obtain ⟨h1, h2⟩ := stlb_0 a b a b [] rfl (by omega) (fun e he => okL_mem h he)
    have h1 : F_stlb_0 a (a, b, 0) = decide (a = b) := h1
    have h2 : P_stlb_0 a (a, b, 0) = true := h2
    rw [h1, h2, hl]
    simp only [bne_self_eq_false, cond_false, Bool.and_true]
    exact ⟨decide_eq_true (by have := okL_len h; omega), trivial⟩
  · have e : ((a.length : Int) != (b.length : Int)) = true := by simpa using hl
    rw [e]
    exact ⟨rfl, (decide_eq_false (by rintro rfl; exact hl rfl)).symm⟩
theorem stlb_P : ∀ a : List STr × List STr, (fun a : List STr × List STr => okL a.1) a = true → P_stlb a = true := fun a h => (stlb_both a h).1
theorem stlb_F : ∀ a : List STr × List STr, (fun a : List STr × List STr => okL a.1) a = true → F_stlb a = (fun a : List STr × List STr => decide (a.1 = a.2)) a := fun a h => (stlb_both a h).2
theorem stlb_run : ∀ a, (fun a => okL a.1 : (List (STr)) × (List (STr)) → Bool) a = true → ∃ f, M_stlb f a = some ((fun a => decide (a.1 = a.2) : (List (STr)) × (List (STr)) → Bool) a) := fun a h => by have h1 := stlb_auto a (stlb_P a h); rw [stlb_F a h] at h1; exact h1
noncomputable def E_stlb : Ent := ⟨40, [.rd tSTr, .rd tSTr], [.v (.bool)], fun a => (fun a => okL a.1 : (List (STr)) × (List (STr)) → Bool) a, fun a => (fun a => decide (a.1 = a.2) : (List (STr)) × (List (STr)) → Bool) a⟩
theorem E_stlb_ok : E_stlb.Ok Try.prog := fun a hp vs hv => (stlb_run a hp).elim fun f h => fnX_ok (C := C_stlb) (Lt := Lt_stlb) (fn := Try.f40) (rs := [.tmp 4]) [.rd tSTr, .rd tSTr] [.v (.bool)] mixed es_stlb Try.func40 rfl rfl rfl (by kernel_rfl) (by kernel_rfl) f h vs hv
end Go.AL
/-
  Layer 16: what the laws share; awake holds. By an AI agent.
-/
namespace Go.AL
open Go.Proofs
set_option linter.unusedVariables false
set_option linter.unusedSimpArgs false
noncomputable def C_awk : Cfg := ⟨Try.prog, [E_top, E_low, E_vmap, E_page, E_wlk, E_vfil], pmT [], 67, [], []⟩
theorem es_awk : EsOk Try.prog [E_top, E_low, E_vmap, E_page, E_wlk, E_vfil] [] := es_cons E_top_ok (es_cons E_low_ok (es_cons E_vmap_ok (es_cons E_page_ok (es_cons E_wlk_ok (es_cons E_vfil_ok (es_nil))))))
def Lt_awk : Nat → LD := ldT []
noncomputable def M_awk (f : Nat) (a : Unit) : Option (Bool) := (runX (C_awk) Lt_awk (Kret Try.prog [.tmp 0] [.v (.bool)]) f [.code (bodyOf Try.f12)] (initX [] a) : Option (ResT [.v (.bool)]))
theorem M_awk_eq (f : Nat)  : M_awk (f + 1) () =
    some ((↑(filS ([], (wlkS ((Go.Proofs.mapS ((Go.Proofs.mapS ([], (3, 4096, 12, 7, 32, 1, false), 0, (0, 1, 0, [], 3, 8192, 12, 7, 32, 0, false), 7)).1, (3, 8192, 12, 7, 32, 0, false), 3, (0, 2, 0, [], 2, 1048576, 12, 3, 0, 0, false), 1)).1, (3, 4096, 12, 7, 32, 1, false), 12293)).1)).length : Int) == 1) := by kernel_rfl
noncomputable def F_awk : Unit → Bool
  | () => (↑(filS ([], (wlkS ((Go.Proofs.mapS ((Go.Proofs.mapS ([], (3, 4096, 12, 7, 32, 1, false), 0, (0, 1, 0, [], 3, 8192, 12, 7, 32, 0, false), 7)).1, (3, 8192, 12, 7, 32, 0, false), 3, (0, 2, 0, [], 2, 1048576, 12, 3, 0, 0, false), 1)).1, (3, 4096, 12, 7, 32, 1, false), 12293)).1)).length : Int) == 1
noncomputable def P_awk : Unit → Bool
  | () => true
theorem awk_auto : ∀ a : Unit, Rns (fun f => M_awk f a) (P_awk a) (F_awk a)
  | () => ev_step (fun f => M_awk_eq f ) ev_some
theorem awk_t : F_awk () = true := by decide +kernel
theorem awk_P : ∀ a : Unit, (fun _ => true) a = true → P_awk a = true := fun _ _ => rfl
theorem awk_F : ∀ a : Unit, (fun _ => true) a = true → F_awk a = (fun _ => true) a := fun _ _ => awk_t
theorem awk_run : ∀ a, (fun _ => true : Unit → Bool) a = true → ∃ f, M_awk f a = some ((fun _ => true : Unit → Bool) a) := fun a h => by have h1 := awk_auto a (awk_P a h); rw [awk_F a h] at h1; exact h1
noncomputable def E_awk : Ent := ⟨12, [], [.v (.bool)], fun a => (fun _ => true : Unit → Bool) a, fun a => (fun _ => true : Unit → Bool) a⟩
theorem E_awk_ok : E_awk.Ok Try.prog := fun a hp vs hv => (awk_run a hp).elim fun f h => fnX_ok (C := C_awk) (Lt := Lt_awk) (fn := Try.f12) (rs := [.tmp 0]) [] [.v (.bool)] mixed es_awk Try.func12 rfl rfl rfl (by kernel_rfl) (by kernel_rfl) f h vs hv
end Go.AL
/-
  Layer 16: walks, Sync and caches: models. By an AI agent.
-/
namespace Go.AL
open Go.Proofs
set_option linter.unusedVariables false
set_option linter.unusedSimpArgs false
def dropS (a : List STr × SId) : List STr := a.1.filter (fun t => !memD a.2 t.2.2.2.2.1)
theorem tr40a {u : STr} (h : trPre u = true) : len40n u.2.2.2.2.1 = true := (Bool.and_eq_true_iff.1 (tr40 h)).1
noncomputable def C_drp1 : Cfg := ⟨Try.prog, [E_scon], pmT [], 9, [], []⟩
theorem es_drp1 : EsOk Try.prog [E_scon] [] := es_cons E_scon_ok (es_nil)
def Lt_drp1 : Nat → LD := ldT []
noncomputable def M_drp1 (f : Nat) (a : STr × SId) : Option (Bool) := (runX (C_drp1) Lt_drp1 (Kret Try.prog [.tmp 3] [.v (.bool)]) f [.code (bodyOf Try.f73)] (initX [.g tSTr, .cp tSId] a) : Option (ResT [.v (.bool)]))
theorem M_drp1_eq (f : Nat) (t : STr) (id : SId) : M_drp1 (f + 1) (t, id) =
    bif len40n t.2.2.2.2.1 then some !memD id t.2.2.2.2.1 else none := by kernel_rfl
noncomputable def F_drp1 : (STr × SId) → Bool
  | (t, id) => !memD id t.2.2.2.2.1
noncomputable def P_drp1 : (STr × SId) → Bool
  | (t, id) => len40n t.2.2.2.2.1
theorem drp1_auto : ∀ a : STr × SId, Rns (fun f => M_drp1 f a) (P_drp1 a) (F_drp1 a)
  | (t, id) => ev_step (fun f => M_drp1_eq f _ _) (ev_chk1 ev_some)
theorem drp1_P : ∀ a : STr × SId, len40n a.1.2.2.2.2.1 = true → P_drp1 a = true := fun a h => h
theorem drp1_F : ∀ a : STr × SId, len40n a.1.2.2.2.2.1 = true → F_drp1 a = !memD a.2 a.1.2.2.2.2.1 := fun a _ => rfl
theorem drp1_run : ∀ a, (fun a => len40n a.1.2.2.2.2.1 : STr × SId → Bool) a = true → ∃ f, M_drp1 f a = some ((fun a => !memD a.2 a.1.2.2.2.2.1 : STr × SId → Bool) a) := fun a h => by have h1 := drp1_auto a (drp1_P a h); rw [drp1_F a h] at h1; exact h1
noncomputable def E_drp1 : Ent := ⟨73, [.g tSTr, .cp tSId], [.v (.bool)], fun a => (fun a => len40n a.1.2.2.2.2.1 : STr × SId → Bool) a, fun a => (fun a => !memD a.2 a.1.2.2.2.2.1 : STr × SId → Bool) a⟩
theorem E_drp1_ok : E_drp1.Ok Try.prog := fun a hp vs hv => (drp1_run a hp).elim fun f h => fnX_ok (C := C_drp1) (Lt := Lt_drp1) (fn := Try.f73) (rs := [.tmp 3]) [.g tSTr, .cp tSId] [.v (.bool)] mixed es_drp1 Try.func73 rfl rfl rfl (by kernel_rfl) (by kernel_rfl) f h vs hv
noncomputable def C_fld : Cfg := ⟨Try.prog, [E_ctr, E_drp1], pmT [], 24, [], []⟩
theorem es_fld : EsOk Try.prog [E_ctr, E_drp1] [] := es_cons E_ctr_ok (es_cons E_drp1_ok (es_nil))
def Lt_fld : Nat → LD := ldT [(0, ⟨[.fn 1 73 [tSId], .list 5 999 45 6 tSTr, .rd 8 tSTr, .c 9 (.int .i64), .c 10 (.int .i64)], []⟩)]
noncomputable def M_fld (f : Nat) (a : (List (STr)) × SId) : Option ((List (STr))) := (runX (C_fld) Lt_fld (Kret Try.prog [.tmp 4] [.o 45 6 tSTr]) f [.code (bodyOf Try.f71)] (initX [.rd tSTr, .fn 73 [tSId]] a) : Option (ResT [.o 45 6 tSTr]))
noncomputable def L_fld_0 (f : Nat) (x : SId × (List (STr)) × (List (STr)) × Int × Int) : Option ((List (STr))) := (runX (C_fld) Lt_fld (Kret Try.prog [.tmp 4] [.o 45 6 tSTr]) f (headOf Try.f71 0) ((Lt_fld 0).mk' x) : Option (ResT [.o 45 6 tSTr]))
theorem M_fld_eq (f : Nat) (tlb : List (STr)) (keep : SId) : M_fld (f + 1) (tlb, keep) =
    L_fld_0 f (keep, [], tlb, (↑tlb.length : Int), 0) := by kernel_rfl
theorem L_fld_0_eq (f : Nat) (keep : SId) (out : List (STr)) (x8 : List (STr)) (x9 : Int) (x10 : Int) : L_fld_0 (f + 1) (keep, out, x8, x9, x10) =
    bif decide (x10 < x9) then bif decide (0 ≤ x10) && decide (x10 < (↑x8.length : Int)) then bif len40n (x8.getD x10.toNat (0, 0, 0, 0, [], [])).2.2.2.2.1 then bif !memD keep (x8.getD x10.toNat (0, 0, 0, 0, [], [])).2.2.2.2.1 then bif len40n (x8.getD x10.toNat (0, 0, 0, 0, [], [])).2.2.2.2.1 && len40n (x8.getD x10.toNat (0, 0, 0, 0, [], [])).2.2.2.2.2 then bif decide ((out.length + [x8.getD x10.toNat (0, 0, 0, 0, [], [])].length) * 80 ≤ 140737488355328) then L_fld_0 f (keep, out ++ [x8.getD x10.toNat (0, 0, 0, 0, [], [])], x8, x9, IntKind.i64.wrap (x10 + 1)) else none else none else L_fld_0 f (keep, out, x8, x9, IntKind.i64.wrap (x10 + 1)) else none else none else some out := by kernel_rfl
noncomputable def F_fld_0 : List (STr) → (SId × (List (STr)) × (List (STr)) × Int × Nat) → (List (STr))
  | [], (keep, out, x8, x9, x10) => out
  | uu :: rest, (keep, out, x8, x9, x10) => bif !memD keep uu.2.2.2.2.1 then F_fld_0 rest (keep, out ++ [uu], x8, x9, x10 + 1) else F_fld_0 rest (keep, out, x8, x9, x10 + 1)
noncomputable def P_fld_0 : List (STr) → (SId × (List (STr)) × (List (STr)) × Int × Nat) → Bool
  | [], (keep, out, x8, x9, x10) => true
  | uu :: rest, (keep, out, x8, x9, x10) => len40n uu.2.2.2.2.1 && bif !memD keep uu.2.2.2.2.1 then len40n uu.2.2.2.2.1 && len40n uu.2.2.2.2.2 && (decide ((out.length + [uu].length) * 80 ≤ 140737488355328) && P_fld_0 rest (keep, out ++ [uu], x8, x9, x10 + 1)) else P_fld_0 rest (keep, out, x8, x9, x10 + 1)
theorem A_fld_0 : ∀ (rest : List (STr)) (keep : SId) (out : List (STr)) (x8 : List (STr)) (x9 : Int) (x10 : Nat) (hd : x8.drop x10 = rest) (hn : x9 = ((x8.length : Nat) : Int)) (hl : x8.length ≤ 1099511627776), Rns (fun f => L_fld_0 f (keep, out, x8, x9, ((x10 : Nat) : Int))) (P_fld_0 rest (keep, out, x8, x9, x10)) (F_fld_0 rest (keep, out, x8, x9, x10))
  | [], keep, out, x8, x9, x10, hd, hn, hl => ev_step (T := fun f => some out) (fun f => (L_fld_0_eq f _ _ _ _ _).trans (by simp only [ge_decn hn (drop_ge hd), ge0, Bool.and_self, Bool.true_and, cond_true, cond_false, List.length_set] <;> rfl)) ev_some
  | uu :: rest, keep, out, x8, x9, x10, hd, hn, hl => ev_step (T := fun f => bif len40n uu.2.2.2.2.1 then bif !memD keep uu.2.2.2.2.1 then bif len40n uu.2.2.2.2.1 && len40n uu.2.2.2.2.2 then bif decide ((out.length + [uu].length) * 80 ≤ 140737488355328) then L_fld_0 f (keep, out ++ [uu], x8, x9, (↑(x10 + 1) : Int)) else none else none else L_fld_0 f (keep, out, x8, x9, (↑(x10 + 1) : Int)) else none) (fun f => (L_fld_0_eq f _ _ _ _ _).trans (by simp only [lt_decn hn (drop_lt hd), lt_dec (drop_lt hd), drop_get hd, wrap_succ (drop_lt hd) hl, getD_set (drop_lt hd), ge0, Bool.and_self, Bool.true_and, cond_true, cond_false, List.length_set] <;> rfl)) (ev_chk (ev_bif (ev_chk (ev_chk (A_fld_0 rest _ _ _ _ _ (by first | exact drop_succ hd | exact drop_set hd | exact drop_setS (drop_set hd)) (by first | exact hn | simpa using hn) (by first | exact hl | simpa using hl)))) (A_fld_0 rest _ _ _ _ _ (by first | exact drop_succ hd | exact drop_set hd | exact drop_setS (drop_set hd)) (by first | exact hn | simpa using hn) (by first | exact hl | simpa using hl))))
noncomputable def F_fld : ((List (STr)) × SId) → (List (STr))
  | (tlb, keep) => F_fld_0 tlb (keep, [], tlb, (↑tlb.length : Int), 0)
noncomputable def P_fld : ((List (STr)) × SId) → Bool
  | (tlb, keep) => decide (tlb.length ≤ 1099511627776) && P_fld_0 tlb (keep, [], tlb, (↑tlb.length : Int), 0)
theorem fld_auto : ∀ a : (List (STr)) × SId, Rns (fun f => M_fld f a) (P_fld a) (F_fld a)
  | (tlb, keep) => ev_step (fun f => M_fld_eq f _ _) (ev_and fun hh => A_fld_0 _ _ _ _ _ _ rfl (by first | rfl | simp) (of_decide_eq_true hh))
theorem fld_0 (t : SId) (x8 : List STr) (x9 : Int) : ∀ (r out : List STr) (k : Nat), (∀ e ∈ r, trPre e = true) → out.length + r.length ≤ 68719476736 → F_fld_0 r (t, out, x8, x9, k) = out ++ dropS (r, t) ∧ P_fld_0 r (t, out, x8, x9, k) = true
  | [], out, k, h, hl => ⟨by simp [F_fld_0, dropS], rfl⟩
  | u :: r, out, k, h, hl => by
    simp only [List.length_cons] at hl
    have hu2 := tr40a (h u (List.mem_cons_self ..))
    have hu : len40n u.2.2.2.2.2 = true := (Bool.and_eq_true_iff.1 (tr40 (h u (List.mem_cons_self ..)))).2
    obtain ⟨i1, i2⟩ := fld_0 t x8 x9 r (out ++ [u]) (k + 1) (fun e he => h e (List.mem_cons_of_mem _ he)) (by simp; omega)
    obtain ⟨j1, j2⟩ := fld_0 t x8 x9 r out (k + 1) (fun e he => h e (List.mem_cons_of_mem _ he)) (by omega)
    have e80 : decide ((out.length + [u].length) * 80 ≤ 140737488355328) = true := decide_eq_true (by simp only [List.length_singleton]; omega)
    simp only [F_fld_0, P_fld_0, i1, i2, j1, j2, hu, hu2, e80, Bool.true_and, dropS, List.filter_cons]
    cases hk : memD t u.2.2.2.2.1
    · refine ⟨?_, rfl⟩
      simp only [Bool.not_false, cond_true, if_true, List.append_assoc, List.singleton_append]
    · exact ⟨rfl, rfl⟩
theorem fld_P : ∀ a : List STr × SId, (fun a : List STr × SId => okL a.1) a = true → P_fld a = true := fun a h => by
  have h : okL a.1 = true := h
  simp only [P_fld, (fld_0 a.2 _ _ a.1 [] 0 (fun e he => okL_mem h he) (by simpa using okL_len h)).2, Bool.and_true]
  exact decide_eq_true (by have := okL_len h; omega)
theorem fld_F : ∀ a : List STr × SId, (fun a : List STr × SId => okL a.1) a = true → F_fld a = dropS a := fun a h => by
  have h : okL a.1 = true := h
  simp only [F_fld, (fld_0 a.2 _ _ a.1 [] 0 (fun e he => okL_mem h he) (by simpa using okL_len h)).1, List.nil_append]
theorem fld_run : ∀ a, (fun a => okL a.1 : (List (STr)) × SId → Bool) a = true → ∃ f, M_fld f a = some ((dropS : (List (STr)) × SId → (List (STr))) a) := fun a h => by have h1 := fld_auto a (fld_P a h); rw [fld_F a h] at h1; exact h1
noncomputable def E_fld : Ent := ⟨71, [.rd tSTr, .fn 73 [tSId]], [.o 45 6 tSTr], fun a => (fun a => okL a.1 : (List (STr)) × SId → Bool) a, fun a => (dropS : (List (STr)) × SId → (List (STr))) a⟩
theorem E_fld_ok : E_fld.Ok Try.prog := fun a hp vs hv => (fld_run a hp).elim fun f h => fnX_ok (C := C_fld) (Lt := Lt_fld) (fn := Try.f71) (rs := [.tmp 4]) [.rd tSTr, .fn 73 [tSId]] [.o 45 6 tSTr] mixed es_fld Try.func71 rfl rfl rfl (by kernel_rfl) (by kernel_rfl) f h vs hv
noncomputable def C_vdrp : Cfg := ⟨Try.prog, [E_fld], pmT [], 8, [], []⟩
theorem es_vdrp : EsOk Try.prog [E_fld] [] := es_cons E_fld_ok (es_nil)
def Lt_vdrp : Nat → LD := ldT []
noncomputable def M_vdrp (f : Nat) (a : (List (STr)) × SId) : Option ((List (STr))) := (runX (C_vdrp) Lt_vdrp (Kret Try.prog [.tmp 4] [.o 45 6 tSTr]) f [.code (bodyOf Try.f44)] (initX [.rd tSTr, .g tSId] a) : Option (ResT [.o 45 6 tSTr]))
theorem M_vdrp_eq (f : Nat) (tlb : List (STr)) (id : SId) : M_vdrp (f + 1) (tlb, id) =
    bif okL tlb then some (dropS (tlb, id)) else none := by kernel_rfl
noncomputable def F_vdrp : ((List (STr)) × SId) → (List (STr))
  | (tlb, id) => dropS (tlb, id)
noncomputable def P_vdrp : ((List (STr)) × SId) → Bool
  | (tlb, id) => okL tlb
theorem vdrp_auto : ∀ a : (List (STr)) × SId, Rns (fun f => M_vdrp f a) (P_vdrp a) (F_vdrp a)
  | (tlb, id) => ev_step (fun f => M_vdrp_eq f _ _) (ev_chk1 ev_some)
theorem vdrp_P : ∀ a : List STr × SId, (fun a : List STr × SId => okL a.1) a = true → P_vdrp a = true := fun a h => h
theorem vdrp_F : ∀ a : List STr × SId, (fun a : List STr × SId => okL a.1) a = true → F_vdrp a = dropS a := fun a h => rfl
theorem vdrp_run : ∀ a, (fun a => okL a.1 : (List (STr)) × SId → Bool) a = true → ∃ f, M_vdrp f a = some ((dropS : (List (STr)) × SId → (List (STr))) a) := fun a h => by have h1 := vdrp_auto a (vdrp_P a h); rw [vdrp_F a h] at h1; exact h1
noncomputable def E_vdrp : Ent := ⟨44, [.rd tSTr, .g tSId], [.o 45 6 tSTr], fun a => (fun a => okL a.1 : (List (STr)) × SId → Bool) a, fun a => (dropS : (List (STr)) × SId → (List (STr))) a⟩
theorem E_vdrp_ok : E_vdrp.Ok Try.prog := fun a hp vs hv => (vdrp_run a hp).elim fun f h => fnX_ok (C := C_vdrp) (Lt := Lt_vdrp) (fn := Try.f44) (rs := [.tmp 4]) [.rd tSTr, .g tSId] [.o 45 6 tSTr] mixed es_vdrp Try.func44 rfl rfl rfl (by kernel_rfl) (by kernel_rfl) f h vs hv
noncomputable def C_rdrp : Cfg := ⟨Try.prog, [E_hasId, E_rctr], pmT [(5, ([(0, []), (1, []), (2, []), (3, []), (4, []), (5, []), (6, []), (7, [])], [(13, 20)]))], 30, [], []⟩
theorem es_rdrp : EsOk Try.prog [E_hasId, E_rctr] [] := es_cons E_hasId_ok (es_cons E_rctr_ok (es_nil))
def Lt_rdrp : Nat → LD := ldT [(0, ⟨[.rd 0 tSTr, .box 3 3 39 3 tSId, .list 5 999 45 6 tSTr, .c 6 (.int .i64)], []⟩)]
noncomputable def M_rdrp (f : Nat) (a : (List (STr)) × SId) : Option ((List (STr))) := (runX (C_rdrp) Lt_rdrp (Kret Try.prog [.tmp 4] [.o 45 6 tSTr]) f [.code (bodyOf Try.f45)] (initX [.rd tSTr, .g tSId] a) : Option (ResT [.o 45 6 tSTr]))
noncomputable def L_rdrp_0 (f : Nat) (x : (List (STr)) × SId × (List (STr)) × Int) : Option ((List (STr))) := (runX (C_rdrp) Lt_rdrp (Kret Try.prog [.tmp 4] [.o 45 6 tSTr]) f (headOf Try.f45 0) ((Lt_rdrp 0).mk' x) : Option (ResT [.o 45 6 tSTr]))
theorem M_rdrp_eq (f : Nat) (tlb : List (STr)) (id : SId) : M_rdrp (f + 1) (tlb, id) =
    L_rdrp_0 f (tlb, id, [], 0) := by kernel_rfl
theorem L_rdrp_0_eq (f : Nat) (tlb : List (STr)) (id : SId) (out : List (STr)) (i : Int) : L_rdrp_0 (f + 1) (tlb, id, out, i) =
    bif decide (i < (↑tlb.length : Int)) then bif decide (0 ≤ i) && decide (i < (↑tlb.length : Int)) then bif len40n (tlb.getD i.toNat (0, 0, 0, 0, [], [])).2.2.2.2.1 then bif !memD id (tlb.getD i.toNat (0, 0, 0, 0, [], [])).2.2.2.2.1 then bif decide (0 ≤ i) && decide (i < (↑tlb.length : Int)) then bif trPre (tlb.getD i.toNat (0, 0, 0, 0, [], [])) then bif decide ((out.length + [tlb.getD i.toNat (0, 0, 0, 0, [], [])].length) * 80 ≤ 140737488355328) then L_rdrp_0 f (tlb, id, out ++ [tlb.getD i.toNat (0, 0, 0, 0, [], [])], IntKind.i64.wrap (i + 1)) else none else none else none else L_rdrp_0 f (tlb, id, out, IntKind.i64.wrap (i + 1)) else none else none else some out := by kernel_rfl
noncomputable def F_rdrp_0 : List (STr) → ((List (STr)) × SId × (List (STr)) × Nat) → (List (STr))
  | [], (tlb, id, out, i) => out
  | uu :: rest, (tlb, id, out, i) => bif !memD id uu.2.2.2.2.1 then F_rdrp_0 rest (tlb, id, out ++ [uu], i + 1) else F_rdrp_0 rest (tlb, id, out, i + 1)
noncomputable def P_rdrp_0 : List (STr) → ((List (STr)) × SId × (List (STr)) × Nat) → Bool
  | [], (tlb, id, out, i) => true
  | uu :: rest, (tlb, id, out, i) => len40n uu.2.2.2.2.1 && bif !memD id uu.2.2.2.2.1 then trPre uu && (decide ((out.length + [uu].length) * 80 ≤ 140737488355328) && P_rdrp_0 rest (tlb, id, out ++ [uu], i + 1)) else P_rdrp_0 rest (tlb, id, out, i + 1)
theorem A_rdrp_0 : ∀ (rest : List (STr)) (tlb : List (STr)) (id : SId) (out : List (STr)) (i : Nat) (hd : tlb.drop i = rest) (hl : tlb.length ≤ 1099511627776), Rns (fun f => L_rdrp_0 f (tlb, id, out, ((i : Nat) : Int))) (P_rdrp_0 rest (tlb, id, out, i)) (F_rdrp_0 rest (tlb, id, out, i))
  | [], tlb, id, out, i, hd, hl => ev_step (T := fun f => some out) (fun f => (L_rdrp_0_eq f _ _ _ _).trans (by simp only [ge_dec (drop_ge hd), ge0, Bool.and_self, Bool.true_and, cond_true, cond_false, List.length_set] <;> rfl)) ev_some
  | uu :: rest, tlb, id, out, i, hd, hl => ev_step (T := fun f => bif len40n uu.2.2.2.2.1 then bif !memD id uu.2.2.2.2.1 then bif trPre uu then bif decide ((out.length + [uu].length) * 80 ≤ 140737488355328) then L_rdrp_0 f (tlb, id, out ++ [uu], (↑(i + 1) : Int)) else none else none else L_rdrp_0 f (tlb, id, out, (↑(i + 1) : Int)) else none) (fun f => (L_rdrp_0_eq f _ _ _ _).trans (by simp only [lt_dec (drop_lt hd), drop_get hd, wrap_succ (drop_lt hd) hl, getD_set (drop_lt hd), ge0, Bool.and_self, Bool.true_and, cond_true, cond_false, List.length_set] <;> rfl)) (ev_chk (ev_bif (ev_chk (ev_chk (A_rdrp_0 rest _ _ _ _ (by first | exact drop_succ hd | exact drop_set hd | exact drop_setS (drop_set hd)) (by first | exact hl | simpa using hl)))) (A_rdrp_0 rest _ _ _ _ (by first | exact drop_succ hd | exact drop_set hd | exact drop_setS (drop_set hd)) (by first | exact hl | simpa using hl))))
noncomputable def F_rdrp : ((List (STr)) × SId) → (List (STr))
  | (tlb, id) => F_rdrp_0 tlb (tlb, id, [], 0)
noncomputable def P_rdrp : ((List (STr)) × SId) → Bool
  | (tlb, id) => decide (tlb.length ≤ 1099511627776) && P_rdrp_0 tlb (tlb, id, [], 0)
theorem rdrp_auto : ∀ a : (List (STr)) × SId, Rns (fun f => M_rdrp f a) (P_rdrp a) (F_rdrp a)
  | (tlb, id) => ev_step (fun f => M_rdrp_eq f _ _) (ev_and fun hh => A_rdrp_0 _ _ _ _ _ rfl (of_decide_eq_true hh))
theorem rdrp_0 (t : SId) (l : List STr) : ∀ (r out : List STr) (k : Nat), (∀ e ∈ r, trPre e = true) → out.length + r.length ≤ 68719476736 → F_rdrp_0 r (l, t, out, k) = out ++ dropS (r, t) ∧ P_rdrp_0 r (l, t, out, k) = true
  | [], out, k, h, hl => ⟨by simp [F_rdrp_0, dropS], rfl⟩
  | u :: r, out, k, h, hl => by
    simp only [List.length_cons] at hl
    have hu := h u (List.mem_cons_self ..)
    have hu2 := tr40a (h u (List.mem_cons_self ..))
    obtain ⟨i1, i2⟩ := rdrp_0 t l r (out ++ [u]) (k + 1) (fun e he => h e (List.mem_cons_of_mem _ he)) (by simp; omega)
    obtain ⟨j1, j2⟩ := rdrp_0 t l r out (k + 1) (fun e he => h e (List.mem_cons_of_mem _ he)) (by omega)
    have e80 : decide ((out.length + [u].length) * 80 ≤ 140737488355328) = true := decide_eq_true (by simp only [List.length_singleton]; omega)
    simp only [F_rdrp_0, P_rdrp_0, i1, i2, j1, j2, hu, hu2, e80, Bool.true_and, dropS, List.filter_cons]
    cases hk : memD t u.2.2.2.2.1
    · refine ⟨?_, rfl⟩
      simp only [Bool.not_false, cond_true, if_true, List.append_assoc, List.singleton_append]
    · exact ⟨rfl, rfl⟩
theorem rdrp_P : ∀ a : List STr × SId, (fun a : List STr × SId => okL a.1) a = true → P_rdrp a = true := fun a h => by
  have h : okL a.1 = true := h
  simp only [P_rdrp, (rdrp_0 a.2 a.1 a.1 [] 0 (fun e he => okL_mem h he) (by simpa using okL_len h)).2, Bool.and_true]
  exact decide_eq_true (by have := okL_len h; omega)
theorem rdrp_F : ∀ a : List STr × SId, (fun a : List STr × SId => okL a.1) a = true → F_rdrp a = dropS a := fun a h => by
  have h : okL a.1 = true := h
  simp only [F_rdrp, (rdrp_0 a.2 a.1 a.1 [] 0 (fun e he => okL_mem h he) (by simpa using okL_len h)).1, List.nil_append]
theorem rdrp_run : ∀ a, (fun a => okL a.1 : (List (STr)) × SId → Bool) a = true → ∃ f, M_rdrp f a = some ((dropS : (List (STr)) × SId → (List (STr))) a) := fun a h => by have h1 := rdrp_auto a (rdrp_P a h); rw [rdrp_F a h] at h1; exact h1
noncomputable def E_rdrp : Ent := ⟨45, [.rd tSTr, .g tSId], [.o 45 6 tSTr], fun a => (fun a => okL a.1 : (List (STr)) × SId → Bool) a, fun a => (dropS : (List (STr)) × SId → (List (STr))) a⟩
theorem E_rdrp_ok : E_rdrp.Ok Try.prog := fun a hp vs hv => (rdrp_run a hp).elim fun f h => fnX_ok (C := C_rdrp) (Lt := Lt_rdrp) (fn := Try.f45) (rs := [.tmp 4]) [.rd tSTr, .g tSId] [.o 45 6 tSTr] mixed es_rdrp Try.func45 rfl rfl rfl (by kernel_rfl) (by kernel_rfl) f h vs hv
noncomputable def C_rflu : Cfg := ⟨Try.prog, [E_hasId, E_hasInt, E_rctr], pmT [], 74, [], []⟩
theorem es_rflu : EsOk Try.prog [E_hasId, E_hasInt, E_rctr] [] := es_cons E_hasId_ok (es_cons E_hasInt_ok (es_cons E_rctr_ok (es_nil)))
def Lt_rflu : Nat → LD := ldT [(0, ⟨[.rd 0 tSTr, .rd 1 tSId, .rd 2 [.int .i64], .list 7 999 45 6 tSTr, .c 8 (.int .i64)], []⟩), (2, ⟨[.rd 0 tSTr, .rd 1 tSId, .rd 2 [.int .i64], .list 7 999 45 6 tSTr, .c 8 (.int .i64), .c 9 (.bool), .c 10 (.int .i64)], []⟩), (4, ⟨[.rd 0 tSTr, .rd 1 tSId, .rd 2 [.int .i64], .list 7 999 45 6 tSTr, .c 8 (.int .i64), .c 9 (.bool), .c 11 (.int .i64)], []⟩)]
noncomputable def M_rflu (f : Nat) (a : (List (STr)) × (List (SId)) × (List (Int))) : Option ((List (STr))) := (runX (C_rflu) Lt_rflu (Kret Try.prog [.tmp 6] [.o 45 6 tSTr]) f [.code (bodyOf Try.f47)] (initX [.rd tSTr, .rd tSId, .rd [.int .i64]] a) : Option (ResT [.o 45 6 tSTr]))
noncomputable def L_rflu_0 (f : Nat) (x : (List (STr)) × (List (SId)) × (List (Int)) × (List (STr)) × Int) : Option ((List (STr))) := (runX (C_rflu) Lt_rflu (Kret Try.prog [.tmp 6] [.o 45 6 tSTr]) f (headOf Try.f47 0) ((Lt_rflu 0).mk' x) : Option (ResT [.o 45 6 tSTr]))
noncomputable def L_rflu_2 (f : Nat) (x : (List (STr)) × (List (SId)) × (List (Int)) × (List (STr)) × Int × Bool × Int) : Option ((List (STr))) := (runX (C_rflu) Lt_rflu (Kret Try.prog [.tmp 6] [.o 45 6 tSTr]) f (headOf Try.f47 2) ((Lt_rflu 2).mk' x) : Option (ResT [.o 45 6 tSTr]))
noncomputable def L_rflu_4 (f : Nat) (x : (List (STr)) × (List (SId)) × (List (Int)) × (List (STr)) × Int × Bool × Int) : Option ((List (STr))) := (runX (C_rflu) Lt_rflu (Kret Try.prog [.tmp 6] [.o 45 6 tSTr]) f (headOf Try.f47 4) ((Lt_rflu 4).mk' x) : Option (ResT [.o 45 6 tSTr]))
theorem M_rflu_eq (f : Nat) (tlb : List (STr)) (live : List (SId)) (tables : List (Int)) : M_rflu (f + 1) (tlb, live, tables) =
    L_rflu_0 f (tlb, live, tables, [], 0) := by kernel_rfl
theorem L_rflu_0_eq (f : Nat) (tlb : List (STr)) (live : List (SId)) (tables : List (Int)) (out : List (STr)) (i : Int) : L_rflu_0 (f + 1) (tlb, live, tables, out, i) =
    bif decide (i < (↑tlb.length : Int)) then L_rflu_2 f (tlb, live, tables, out, i, true, 0) else some out := by kernel_rfl
theorem L_rflu_2_eq (f : Nat) (tlb : List (STr)) (live : List (SId)) (tables : List (Int)) (out : List (STr)) (i : Int) (keep : Bool) (k : Int) : L_rflu_2 (f + 1) (tlb, live, tables, out, i, keep, k) =
    bif decide (0 ≤ i) && decide (i < (↑tlb.length : Int)) then bif decide (k < (↑(List.length (tlb.getD i.toNat (0, 0, 0, 0, [], [])).2.2.2.2.1) : Int)) then bif keep then bif decide (0 ≤ i) && decide (i < (↑tlb.length : Int)) then bif decide (0 ≤ k) && decide (k < (↑(List.length (tlb.getD i.toNat (0, 0, 0, 0, [], [])).2.2.2.2.1) : Int)) then bif len40n live then L_rflu_2 f (tlb, live, tables, out, i, memD (List.getD (tlb.getD i.toNat (0, 0, 0, 0, [], [])).2.2.2.2.1 k.toNat (0, 0, 0)) live, IntKind.i64.wrap (k + 1)) else none else none else none else L_rflu_2 f (tlb, live, tables, out, i, false, IntKind.i64.wrap (k + 1)) else L_rflu_4 f (tlb, live, tables, out, i, keep, 0) else none := by kernel_rfl
theorem L_rflu_4_eq (f : Nat) (tlb : List (STr)) (live : List (SId)) (tables : List (Int)) (out : List (STr)) (i : Int) (keep : Bool) (k : Int) : L_rflu_4 (f + 1) (tlb, live, tables, out, i, keep, k) =
    bif decide (0 ≤ i) && decide (i < (↑tlb.length : Int)) then bif decide (k < (↑(List.length (tlb.getD i.toNat (0, 0, 0, 0, [], [])).2.2.2.2.2) : Int)) then bif keep then bif decide (0 ≤ i) && decide (i < (↑tlb.length : Int)) then bif decide (0 ≤ k) && decide (k < (↑(List.length (tlb.getD i.toNat (0, 0, 0, 0, [], [])).2.2.2.2.2) : Int)) then bif len40n tables then L_rflu_4 f (tlb, live, tables, out, i, memD (List.getD (tlb.getD i.toNat (0, 0, 0, 0, [], [])).2.2.2.2.2 k.toNat 0) tables, IntKind.i64.wrap (k + 1)) else none else none else none else L_rflu_4 f (tlb, live, tables, out, i, false, IntKind.i64.wrap (k + 1)) else bif keep then bif decide (0 ≤ i) && decide (i < (↑tlb.length : Int)) then bif trPre (tlb.getD i.toNat (0, 0, 0, 0, [], [])) then bif decide ((out.length + [tlb.getD i.toNat (0, 0, 0, 0, [], [])].length) * 80 ≤ 140737488355328) then L_rflu_0 f (tlb, live, tables, out ++ [tlb.getD i.toNat (0, 0, 0, 0, [], [])], IntKind.i64.wrap (i + 1)) else none else none else none else L_rflu_0 f (tlb, live, tables, out, IntKind.i64.wrap (i + 1)) else none := by kernel_rfl
def keepL (live : List SId) (tables : List Int) (t : STr) : Bool := t.2.2.2.2.1.all (fun x => memD x live) && t.2.2.2.2.2.all (fun x => memD x tables)
def fluS (a : List STr × List SId × List Int) : List STr := a.1.filter (keepL a.2.1 a.2.2)
def fluPre (a : List STr × List SId × List Int) : Bool := okL a.1 && (len40n a.2.1 && len40n a.2.2)
theorem rflu_4 {live : List SId} {tables : List Int} (h2 : len40n tables = true) {p q out R : List STr} {u : STr} (hu : trPre u = true) (hp : p.length ≤ 68719476736) (ho : out.length ≤ 68719476736) : ∀ (r pm : List Int) (keep : Bool), u.2.2.2.2.2 = pm ++ r → pm.length + r.length ≤ 68719476736 →
    (∃ f, L_rflu_0 f (p ++ u :: q, live, tables, (bif keep && r.all (fun x => memD x tables) then out ++ [u] else out), ((p.length + 1 : Nat) : Int)) = some R) → ∃ f, L_rflu_4 f (p ++ u :: q, live, tables, out, ((p.length : Nat) : Int), keep, ((pm.length : Nat) : Int)) = some R
  | [], pm, keep, he, hl, ⟨f, hf⟩ => by
    have e1 : IntKind.i64.wrap (((p.length : Nat) : Int) + 1) = ((p.length + 1 : Nat) : Int) := by rw [i64_id (by omega) (by omega)]; rfl
    have e80 : decide ((out.length + [u].length) * 80 ≤ 140737488355328) = true := decide_eq_true (by simp only [List.length_singleton]; omega)
    refine ⟨f + 1, (L_rflu_4_eq f _ _ _ _ _ _ _).trans ?_⟩
    rw [lt_mid, getD_mid, ge0, he, lt_end, e1, hu, e80]
    rw [List.all_nil, Bool.and_true] at hf
    rw [← hf]
    cases keep <;> rfl
  | m :: r, pm, keep, he, hl, hf => by
    simp only [List.length_cons] at hl
    have e1 : IntKind.i64.wrap (((pm.length : Nat) : Int) + 1) = ((pm.length + 1 : Nat) : Int) := by rw [i64_id (by omega) (by omega)]; rfl
    have em : u.2.2.2.2.2 = (pm ++ [m]) ++ r := by rw [he]; simp
    have el : (pm ++ [m]).length = pm.length + 1 := by simp
    rw [List.all_cons, ← Bool.and_assoc] at hf
    obtain ⟨f, hf⟩ := rflu_4 h2 hu hp ho r (pm ++ [m]) (keep && memD m tables) em (by rw [el]; omega) hf
    rw [el] at hf
    refine ⟨f + 1, (L_rflu_4_eq f _ _ _ _ _ _ _).trans ?_⟩
    rw [lt_mid, getD_mid, ge0, he, lt_mid, getD_mid, ge0, e1, h2, ← hf]
    cases keep <;> rfl
theorem rflu_2 {live : List SId} {tables : List Int} (h1 : len40n live = true) {p q out R : List STr} {u : STr} (hp : p.length ≤ 68719476736) : ∀ (r pm : List SId) (keep : Bool), u.2.2.2.2.1 = pm ++ r → pm.length + r.length ≤ 68719476736 →
    (∃ f, L_rflu_4 f (p ++ u :: q, live, tables, out, ((p.length : Nat) : Int), (keep && r.all (fun x => memD x live)), 0) = some R) → ∃ f, L_rflu_2 f (p ++ u :: q, live, tables, out, ((p.length : Nat) : Int), keep, ((pm.length : Nat) : Int)) = some R
  | [], pm, keep, he, hl, ⟨f, hf⟩ => by
    refine ⟨f + 1, (L_rflu_2_eq f _ _ _ _ _ _ _).trans ?_⟩
    rw [lt_mid, getD_mid, ge0, he, lt_end]
    rw [List.all_nil, Bool.and_true] at hf
    exact hf
  | m :: r, pm, keep, he, hl, hf => by
    simp only [List.length_cons] at hl
    have e1 : IntKind.i64.wrap (((pm.length : Nat) : Int) + 1) = ((pm.length + 1 : Nat) : Int) := by rw [i64_id (by omega) (by omega)]; rfl
    have em : u.2.2.2.2.1 = (pm ++ [m]) ++ r := by rw [he]; simp
    have el : (pm ++ [m]).length = pm.length + 1 := by simp
    rw [List.all_cons, ← Bool.and_assoc] at hf
    obtain ⟨f, hf⟩ := rflu_2 h1 hp r (pm ++ [m]) (keep && memD m live) em (by rw [el]; omega) hf
    rw [el] at hf
    refine ⟨f + 1, (L_rflu_2_eq f _ _ _ _ _ _ _).trans ?_⟩
    rw [lt_mid, getD_mid, ge0, he, lt_mid, getD_mid, ge0, e1, h1, ← hf]
    cases keep <;> rfl
theorem tr_len {u : STr} (h : trPre u = true) : u.2.2.2.2.1.length ≤ 68719476736 ∧ u.2.2.2.2.2.length ≤ 68719476736 := by
  obtain ⟨h1, h2⟩ := Bool.and_eq_true_iff.1 h
  exact ⟨of_decide_eq_true h1, of_decide_eq_true h2⟩
theorem rflu_0 {live : List SId} {tables : List Int} (h1 : len40n live = true) (h2 : len40n tables = true) : ∀ (r p out : List STr), (∀ t ∈ r, trPre t = true) → p.length + r.length ≤ 68719476736 → out.length ≤ p.length → ∃ f, L_rflu_0 f (p ++ r, live, tables, out, ((p.length : Nat) : Int)) = some (out ++ r.filter (keepL live tables))
  | [], p, out, h, hl, ho => ⟨1, (L_rflu_0_eq 0 _ _ _ _ _).trans (by rw [lt_end]; simp)⟩
  | u :: r, p, out, h, hl, ho => by
    simp only [List.length_cons] at hl
    have hu := h u (List.mem_cons_self ..)
    have el : (p ++ [u]).length = p.length + 1 := by simp
    have hN : (bif keepL live tables u then out ++ [u] else out).length ≤ out.length + 1 := by cases keepL live tables u <;> simp
    obtain ⟨f, hf⟩ := rflu_0 h1 h2 r (p ++ [u]) (bif keepL live tables u then out ++ [u] else out) (fun e he => h e (List.mem_cons_of_mem _ he)) (by rw [el]; omega) (by rw [el]; omega)
    rw [el, List.append_assoc] at hf
    have k4 := rflu_4 (live := live) (q := r) (R := (bif keepL live tables u then out ++ [u] else out) ++ r.filter (keepL live tables)) h2 hu (by omega) (by omega) u.2.2.2.2.2 [] (u.2.2.2.2.1.all (fun x => memD x live)) rfl (by have := (tr_len hu).2; simp; omega) ⟨f, hf⟩
    have k2 := rflu_2 (tables := tables) (q := r) (out := out) h1 (by omega) u.2.2.2.2.1 [] true rfl (by have := (tr_len hu).1; simp; omega) k4
    obtain ⟨g, hg⟩ := k2
    refine ⟨g + 1, (L_rflu_0_eq g _ _ _ _ _).trans ?_⟩
    rw [lt_mid]
    refine Eq.trans hg ?_
    rw [List.filter_cons]
    cases keepL live tables u <;> simp
theorem rflu_run : ∀ a, (fluPre : List STr × List SId × List Int → Bool) a = true → ∃ f, M_rflu f a = some (fluS a) := by
  rintro ⟨tlb, live, tables⟩ h
  obtain ⟨h0, h12⟩ := Bool.and_eq_true_iff.1 h
  obtain ⟨h1, h2⟩ := Bool.and_eq_true_iff.1 h12
  obtain ⟨f, hf⟩ := rflu_0 h1 h2 tlb [] [] (fun t ht => okL_mem h0 ht) (by simpa using okL_len h0) (Nat.le_refl _)
  exact ⟨f + 1, (M_rflu_eq f _ _ _).trans hf⟩
noncomputable def E_rflu : Ent := ⟨47, [.rd tSTr, .rd tSId, .rd [.int .i64]], [.o 45 6 tSTr], fun a => (fluPre : (List (STr)) × (List (SId)) × (List (Int)) → Bool) a, fun a => (fluS : (List (STr)) × (List (SId)) × (List (Int)) → (List (STr))) a⟩
theorem E_rflu_ok : E_rflu.Ok Try.prog := fun a hp vs hv => (rflu_run a hp).elim fun f h => fnX_ok (C := C_rflu) (Lt := Lt_rflu) (fn := Try.f47) (rs := [.tmp 6]) [.rd tSTr, .rd tSId, .rd [.int .i64]] [.o 45 6 tSTr] mixed es_rflu Try.func47 rfl rfl rfl (by kernel_rfl) (by kernel_rfl) f h vs hv
noncomputable def C_fl11 : Cfg := ⟨Try.prog, [E_icon], pmT [], 8, [], []⟩
theorem es_fl11 : EsOk Try.prog [E_icon] [] := es_cons E_icon_ok (es_nil)
def Lt_fl11 : Nat → LD := ldT []
noncomputable def M_fl11 (f : Nat) (a : Int × (List (Int))) : Option (Bool) := (runX (C_fl11) Lt_fl11 (Kret Try.prog [.tmp 3] [.v (.bool)]) f [.code (bodyOf Try.f76)] (initX [.c (.int .i64), .cp [.sl [.int .i64]]] a) : Option (ResT [.v (.bool)]))
theorem M_fl11_eq (f : Nat) (b : Int) (tables : List (Int)) : M_fl11 (f + 1) (b, tables) =
    bif len40n tables then some !memD b tables else none := by kernel_rfl
noncomputable def F_fl11 : (Int × (List (Int))) → Bool
  | (b, tables) => !memD b tables
noncomputable def P_fl11 : (Int × (List (Int))) → Bool
  | (b, tables) => len40n tables
theorem fl11_auto : ∀ a : Int × (List (Int)), Rns (fun f => M_fl11 f a) (P_fl11 a) (F_fl11 a)
  | (b, tables) => ev_step (fun f => M_fl11_eq f _ _) (ev_chk1 ev_some)
theorem fl11_P : ∀ a : Int × List Int, len40n a.2 = true → P_fl11 a = true := fun a h => h
theorem fl11_F : ∀ a : Int × List Int, len40n a.2 = true → F_fl11 a = !memD a.1 a.2 := fun a _ => rfl
theorem fl11_run : ∀ a, (fun a => len40n a.2 : Int × (List (Int)) → Bool) a = true → ∃ f, M_fl11 f a = some ((fun a => !memD a.1 a.2 : Int × (List (Int)) → Bool) a) := fun a h => by have h1 := fl11_auto a (fl11_P a h); rw [fl11_F a h] at h1; exact h1
noncomputable def E_fl11 : Ent := ⟨76, [.c (.int .i64), .cp [.sl [.int .i64]]], [.v (.bool)], fun a => (fun a => len40n a.2 : Int × (List (Int)) → Bool) a, fun a => (fun a => !memD a.1 a.2 : Int × (List (Int)) → Bool) a⟩
theorem E_fl11_ok : E_fl11.Ok Try.prog := fun a hp vs hv => (fl11_run a hp).elim fun f h => fnX_ok (C := C_fl11) (Lt := Lt_fl11) (fn := Try.f76) (rs := [.tmp 3]) [.c (.int .i64), .cp [.sl [.int .i64]]] [.v (.bool)] mixed es_fl11 Try.func76 rfl rfl rfl (by kernel_rfl) (by kernel_rfl) f h vs hv
noncomputable def C_fl12 : Cfg := ⟨Try.prog, [E_scon], pmT [], 8, [], []⟩
theorem es_fl12 : EsOk Try.prog [E_scon] [] := es_cons E_scon_ok (es_nil)
def Lt_fl12 : Nat → LD := ldT []
noncomputable def M_fl12 (f : Nat) (a : SId × (List (SId))) : Option (Bool) := (runX (C_fl12) Lt_fl12 (Kret Try.prog [.tmp 3] [.v (.bool)]) f [.code (bodyOf Try.f78)] (initX [.g tSId, .cp [.sl [.int .i64, .int .i64, .int .i64]]] a) : Option (ResT [.v (.bool)]))
theorem M_fl12_eq (f : Nat) (id : SId) (live : List (SId)) : M_fl12 (f + 1) (id, live) =
    bif len40n live then some !memD id live else none := by kernel_rfl
noncomputable def F_fl12 : (SId × (List (SId))) → Bool
  | (id, live) => !memD id live
noncomputable def P_fl12 : (SId × (List (SId))) → Bool
  | (id, live) => len40n live
theorem fl12_auto : ∀ a : SId × (List (SId)), Rns (fun f => M_fl12 f a) (P_fl12 a) (F_fl12 a)
  | (id, live) => ev_step (fun f => M_fl12_eq f _ _) (ev_chk1 ev_some)
theorem fl12_P : ∀ a : SId × List SId, len40n a.2 = true → P_fl12 a = true := fun a h => h
theorem fl12_F : ∀ a : SId × List SId, len40n a.2 = true → F_fl12 a = !memD a.1 a.2 := fun a _ => rfl
theorem fl12_run : ∀ a, (fun a => len40n a.2 : SId × (List (SId)) → Bool) a = true → ∃ f, M_fl12 f a = some ((fun a => !memD a.1 a.2 : SId × (List (SId)) → Bool) a) := fun a h => by have h1 := fl12_auto a (fl12_P a h); rw [fl12_F a h] at h1; exact h1
noncomputable def E_fl12 : Ent := ⟨78, [.g tSId, .cp [.sl [.int .i64, .int .i64, .int .i64]]], [.v (.bool)], fun a => (fun a => len40n a.2 : SId × (List (SId)) → Bool) a, fun a => (fun a => !memD a.1 a.2 : SId × (List (SId)) → Bool) a⟩
theorem E_fl12_ok : E_fl12.Ok Try.prog := fun a hp vs hv => (fl12_run a hp).elim fun f h => fnX_ok (C := C_fl12) (Lt := Lt_fl12) (fn := Try.f78) (rs := [.tmp 3]) [.g tSId, .cp [.sl [.int .i64, .int .i64, .int .i64]]] [.v (.bool)] mixed es_fl12 Try.func78 rfl rfl rfl (by kernel_rfl) (by kernel_rfl) f h vs hv
theorem find_any {α : Type} (p : α → Bool) : ∀ (l : List α) (k : Int), 0 ≤ k → decide (findI p l k ≥ 0) = l.any p
  | [], k, hk => rfl
  | a :: l, k, hk => by
    have i := find_any p l (k + 1) (by omega)
    cases hp : p a
    · simp only [findI, List.any_cons, hp, cond_false, Bool.false_or]; exact i
    · simp only [findI, List.any_cons, hp, cond_true, Bool.true_or]; exact decide_eq_true hk
noncomputable def C_ix11 : Cfg := ⟨Try.prog, [E_fl11], pmT [], 19, [], []⟩
theorem es_ix11 : EsOk Try.prog [E_fl11] [] := es_cons E_fl11_ok (es_nil)
def Lt_ix11 : Nat → LD := ldT [(0, ⟨[.rd 0 [.int .i64], .fn 1 76 [[.sl [.int .i64]]], .c 7 (.int .i64), .c 8 (.int .i64)], []⟩)]
noncomputable def M_ix11 (f : Nat) (a : (List (Int)) × (List (Int))) : Option (Int) := (runX (C_ix11) Lt_ix11 (Kret Try.prog [.tmp 4] [.v (.int .i64)]) f [.code (bodyOf Try.f111)] (initX [.rd [.int .i64], .fn 76 [[.sl [.int .i64]]]] a) : Option (ResT [.v (.int .i64)]))
noncomputable def L_ix11_0 (f : Nat) (x : (List (Int)) × (List (Int)) × Int × Int) : Option (Int) := (runX (C_ix11) Lt_ix11 (Kret Try.prog [.tmp 4] [.v (.int .i64)]) f (headOf Try.f111 0) ((Lt_ix11 0).mk' x) : Option (ResT [.v (.int .i64)]))
theorem M_ix11_eq (f : Nat) (s : List (Int)) (pf : List (Int)) : M_ix11 (f + 1) (s, pf) =
    L_ix11_0 f (s, pf, (↑s.length : Int), 0) := by kernel_rfl
theorem L_ix11_0_eq (f : Nat) (s : List (Int)) (f0 : List (Int)) (x7 : Int) (x8 : Int) : L_ix11_0 (f + 1) (s, f0, x7, x8) =
    bif decide (x8 < x7) then bif decide (0 ≤ x8) && decide (x8 < (↑s.length : Int)) then bif len40n f0 then bif !memD (s.getD x8.toNat 0) f0 then some x8 else L_ix11_0 f (s, f0, x7, IntKind.i64.wrap (x8 + 1)) else none else none else some (-1) := by kernel_rfl
noncomputable def F_ix11_0 : List (Int) → ((List (Int)) × (List (Int)) × Int × Nat) → Int
  | [], (s, f0, x7, x8) => -1
  | uu :: rest, (s, f0, x7, x8) => bif !memD uu f0 then (↑x8 : Int) else F_ix11_0 rest (s, f0, x7, x8 + 1)
noncomputable def P_ix11_0 : List (Int) → ((List (Int)) × (List (Int)) × Int × Nat) → Bool
  | [], (s, f0, x7, x8) => true
  | uu :: rest, (s, f0, x7, x8) => len40n f0 && bif !memD uu f0 then true else P_ix11_0 rest (s, f0, x7, x8 + 1)
theorem A_ix11_0 : ∀ (rest : List (Int)) (s : List (Int)) (f0 : List (Int)) (x7 : Int) (x8 : Nat) (hd : s.drop x8 = rest) (hn : x7 = ((s.length : Nat) : Int)) (hl : s.length ≤ 1099511627776), Rns (fun f => L_ix11_0 f (s, f0, x7, ((x8 : Nat) : Int))) (P_ix11_0 rest (s, f0, x7, x8)) (F_ix11_0 rest (s, f0, x7, x8))
  | [], s, f0, x7, x8, hd, hn, hl => ev_step (T := fun f => some (-1)) (fun f => (L_ix11_0_eq f _ _ _ _).trans (by simp only [ge_decn hn (drop_ge hd), ge0, Bool.and_self, Bool.true_and, cond_true, cond_false, List.length_set] <;> rfl)) ev_some
  | uu :: rest, s, f0, x7, x8, hd, hn, hl => ev_step (T := fun f => bif len40n f0 then bif !memD uu f0 then some (↑x8 : Int) else L_ix11_0 f (s, f0, x7, (↑(x8 + 1) : Int)) else none) (fun f => (L_ix11_0_eq f _ _ _ _).trans (by simp only [lt_decn hn (drop_lt hd), lt_dec (drop_lt hd), drop_get hd, wrap_succ (drop_lt hd) hl, getD_set (drop_lt hd), ge0, Bool.and_self, Bool.true_and, cond_true, cond_false, List.length_set] <;> rfl)) (ev_chk (ev_bif ev_some (A_ix11_0 rest _ _ _ _ (by first | exact drop_succ hd | exact drop_set hd | exact drop_setS (drop_set hd)) (by first | exact hn | simpa using hn) (by first | exact hl | simpa using hl))))
noncomputable def F_ix11 : ((List (Int)) × (List (Int))) → Int
  | (s, pf) => F_ix11_0 s (s, pf, (↑s.length : Int), 0)
noncomputable def P_ix11 : ((List (Int)) × (List (Int))) → Bool
  | (s, pf) => decide (s.length ≤ 1099511627776) && P_ix11_0 s (s, pf, (↑s.length : Int), 0)
theorem ix11_auto : ∀ a : (List (Int)) × (List (Int)), Rns (fun f => M_ix11 f a) (P_ix11 a) (F_ix11 a)
  | (s, pf) => ev_step (fun f => M_ix11_eq f _ _) (ev_and fun hh => A_ix11_0 _ _ _ _ _ rfl (by first | rfl | simp) (of_decide_eq_true hh))
theorem ix11_0 (s : List Int) (q : List Int) (x7 : Int) (hq : len40n q = true) : ∀ (r : List Int) (k : Nat), F_ix11_0 r (s, q, x7, k) = findI (fun b => !memD b q) r ((k : Nat) : Int) ∧ P_ix11_0 r (s, q, x7, k) = true
  | [], k => ⟨rfl, rfl⟩
  | u :: r, k => by
    obtain ⟨i1, i2⟩ := ix11_0 s q x7 hq r (k + 1)
    simp only [F_ix11_0, P_ix11_0, i1, i2, hq, findI]
    cases memD u q <;> exact ⟨rfl, rfl⟩
theorem ix11_P : ∀ a : List Int × List Int, (fun a : List Int × List Int => len40n a.1 && len40n a.2) a = true → P_ix11 a = true := fun a h => by
  obtain ⟨h1, h2⟩ := Bool.and_eq_true_iff.1 h
  simp only [P_ix11, (ix11_0 a.1 a.2 _ h2 a.1 0).2, Bool.and_true]
  exact h1
theorem ix11_F : ∀ a : List Int × List Int, (fun a : List Int × List Int => len40n a.1 && len40n a.2) a = true → F_ix11 a = (fun a : List Int × List Int => findI (fun b => !memD b a.2) a.1 0) a := fun a h => by
  obtain ⟨h1, h2⟩ := Bool.and_eq_true_iff.1 h
  simp only [F_ix11, (ix11_0 a.1 a.2 _ h2 a.1 0).1]; rfl
theorem ix11_run : ∀ a, (fun a => len40n a.1 && len40n a.2 : (List (Int)) × (List (Int)) → Bool) a = true → ∃ f, M_ix11 f a = some ((fun a => findI (fun b => !memD b a.2) a.1 0 : (List (Int)) × (List (Int)) → Int) a) := fun a h => by have h1 := ix11_auto a (ix11_P a h); rw [ix11_F a h] at h1; exact h1
noncomputable def E_ix11 : Ent := ⟨111, [.rd [.int .i64], .fn 76 [[.sl [.int .i64]]]], [.v (.int .i64)], fun a => (fun a => len40n a.1 && len40n a.2 : (List (Int)) × (List (Int)) → Bool) a, fun a => (fun a => findI (fun b => !memD b a.2) a.1 0 : (List (Int)) × (List (Int)) → Int) a⟩
theorem E_ix11_ok : E_ix11.Ok Try.prog := fun a hp vs hv => (ix11_run a hp).elim fun f h => fnX_ok (C := C_ix11) (Lt := Lt_ix11) (fn := Try.f111) (rs := [.tmp 4]) [.rd [.int .i64], .fn 76 [[.sl [.int .i64]]]] [.v (.int .i64)] mixed es_ix11 Try.func111 rfl rfl rfl (by kernel_rfl) (by kernel_rfl) f h vs hv
noncomputable def C_cf11 : Cfg := ⟨Try.prog, [E_ix11], pmT [], 9, [], []⟩
theorem es_cf11 : EsOk Try.prog [E_ix11] [] := es_cons E_ix11_ok (es_nil)
def Lt_cf11 : Nat → LD := ldT []
noncomputable def M_cf11 (f : Nat) (a : (List (Int)) × (List (Int))) : Option (Bool) := (runX (C_cf11) Lt_cf11 (Kret Try.prog [.tmp 4] [.v (.bool)]) f [.code (bodyOf Try.f75)] (initX [.rd [.int .i64], .fn 76 [[.sl [.int .i64]]]] a) : Option (ResT [.v (.bool)]))
theorem M_cf11_eq (f : Nat) (s : List (Int)) (pf : List (Int)) : M_cf11 (f + 1) (s, pf) =
    bif len40n s && len40n pf then some (decide (findI (fun b => !memD b pf) s 0 ≥ 0)) else none := by kernel_rfl
noncomputable def F_cf11 : ((List (Int)) × (List (Int))) → Bool
  | (s, pf) => decide (findI (fun b => !memD b pf) s 0 ≥ 0)
noncomputable def P_cf11 : ((List (Int)) × (List (Int))) → Bool
  | (s, pf) => len40n s && len40n pf
theorem cf11_auto : ∀ a : (List (Int)) × (List (Int)), Rns (fun f => M_cf11 f a) (P_cf11 a) (F_cf11 a)
  | (s, pf) => ev_step (fun f => M_cf11_eq f _ _) (ev_chk1 ev_some)
theorem cf11_P : ∀ a : List Int × List Int, (fun a : List Int × List Int => len40n a.1 && len40n a.2) a = true → P_cf11 a = true := fun a h => h
theorem cf11_F : ∀ a : List Int × List Int, (fun a : List Int × List Int => len40n a.1 && len40n a.2) a = true → F_cf11 a = (fun a : List Int × List Int => a.1.any (fun b => !memD b a.2)) a := fun a h => find_any _ a.1 0 (Int.le_refl _)
theorem cf11_run : ∀ a, (fun a => len40n a.1 && len40n a.2 : (List (Int)) × (List (Int)) → Bool) a = true → ∃ f, M_cf11 f a = some ((fun a => a.1.any (fun b => !memD b a.2) : (List (Int)) × (List (Int)) → Bool) a) := fun a h => by have h1 := cf11_auto a (cf11_P a h); rw [cf11_F a h] at h1; exact h1
noncomputable def E_cf11 : Ent := ⟨75, [.rd [.int .i64], .fn 76 [[.sl [.int .i64]]]], [.v (.bool)], fun a => (fun a => len40n a.1 && len40n a.2 : (List (Int)) × (List (Int)) → Bool) a, fun a => (fun a => a.1.any (fun b => !memD b a.2) : (List (Int)) × (List (Int)) → Bool) a⟩
theorem E_cf11_ok : E_cf11.Ok Try.prog := fun a hp vs hv => (cf11_run a hp).elim fun f h => fnX_ok (C := C_cf11) (Lt := Lt_cf11) (fn := Try.f75) (rs := [.tmp 4]) [.rd [.int .i64], .fn 76 [[.sl [.int .i64]]]] [.v (.bool)] mixed es_cf11 Try.func75 rfl rfl rfl (by kernel_rfl) (by kernel_rfl) f h vs hv
noncomputable def C_ix12 : Cfg := ⟨Try.prog, [E_fl12], pmT [], 19, [], []⟩
theorem es_ix12 : EsOk Try.prog [E_fl12] [] := es_cons E_fl12_ok (es_nil)
def Lt_ix12 : Nat → LD := ldT [(0, ⟨[.rd 0 tSId, .fn 1 78 [[.sl [.int .i64, .int .i64, .int .i64]]], .c 7 (.int .i64), .c 8 (.int .i64)], []⟩)]
noncomputable def M_ix12 (f : Nat) (a : (List (SId)) × (List (SId))) : Option (Int) := (runX (C_ix12) Lt_ix12 (Kret Try.prog [.tmp 4] [.v (.int .i64)]) f [.code (bodyOf Try.f112)] (initX [.rd tSId, .fn 78 [[.sl [.int .i64, .int .i64, .int .i64]]]] a) : Option (ResT [.v (.int .i64)]))
noncomputable def L_ix12_0 (f : Nat) (x : (List (SId)) × (List (SId)) × Int × Int) : Option (Int) := (runX (C_ix12) Lt_ix12 (Kret Try.prog [.tmp 4] [.v (.int .i64)]) f (headOf Try.f112 0) ((Lt_ix12 0).mk' x) : Option (ResT [.v (.int .i64)]))
theorem M_ix12_eq (f : Nat) (s : List (SId)) (pf : List (SId)) : M_ix12 (f + 1) (s, pf) =
    L_ix12_0 f (s, pf, (↑s.length : Int), 0) := by kernel_rfl
theorem L_ix12_0_eq (f : Nat) (s : List (SId)) (f0 : List (SId)) (x7 : Int) (x8 : Int) : L_ix12_0 (f + 1) (s, f0, x7, x8) =
    bif decide (x8 < x7) then bif decide (0 ≤ x8) && decide (x8 < (↑s.length : Int)) then bif len40n f0 then bif !memD (s.getD x8.toNat (0, 0, 0)) f0 then some x8 else L_ix12_0 f (s, f0, x7, IntKind.i64.wrap (x8 + 1)) else none else none else some (-1) := by kernel_rfl
noncomputable def F_ix12_0 : List (SId) → ((List (SId)) × (List (SId)) × Int × Nat) → Int
  | [], (s, f0, x7, x8) => -1
  | uu :: rest, (s, f0, x7, x8) => bif !memD uu f0 then (↑x8 : Int) else F_ix12_0 rest (s, f0, x7, x8 + 1)
noncomputable def P_ix12_0 : List (SId) → ((List (SId)) × (List (SId)) × Int × Nat) → Bool
  | [], (s, f0, x7, x8) => true
  | uu :: rest, (s, f0, x7, x8) => len40n f0 && bif !memD uu f0 then true else P_ix12_0 rest (s, f0, x7, x8 + 1)
theorem A_ix12_0 : ∀ (rest : List (SId)) (s : List (SId)) (f0 : List (SId)) (x7 : Int) (x8 : Nat) (hd : s.drop x8 = rest) (hn : x7 = ((s.length : Nat) : Int)) (hl : s.length ≤ 1099511627776), Rns (fun f => L_ix12_0 f (s, f0, x7, ((x8 : Nat) : Int))) (P_ix12_0 rest (s, f0, x7, x8)) (F_ix12_0 rest (s, f0, x7, x8))
  | [], s, f0, x7, x8, hd, hn, hl => ev_step (T := fun f => some (-1)) (fun f => (L_ix12_0_eq f _ _ _ _).trans (by simp only [ge_decn hn (drop_ge hd), ge0, Bool.and_self, Bool.true_and, cond_true, cond_false, List.length_set] <;> rfl)) ev_some
  | uu :: rest, s, f0, x7, x8, hd, hn, hl => ev_step (T := fun f => bif len40n f0 then bif !memD uu f0 then some (↑x8 : Int) else L_ix12_0 f (s, f0, x7, (↑(x8 + 1) : Int)) else none) (fun f => (L_ix12_0_eq f _ _ _ _).trans (by simp only [lt_decn hn (drop_lt hd), lt_dec (drop_lt hd), drop_get hd, wrap_succ (drop_lt hd) hl, getD_set (drop_lt hd), ge0, Bool.and_self, Bool.true_and, cond_true, cond_false, List.length_set] <;> rfl)) (ev_chk (ev_bif ev_some (A_ix12_0 rest _ _ _ _ (by first | exact drop_succ hd | exact drop_set hd | exact drop_setS (drop_set hd)) (by first | exact hn | simpa using hn) (by first | exact hl | simpa using hl))))
noncomputable def F_ix12 : ((List (SId)) × (List (SId))) → Int
  | (s, pf) => F_ix12_0 s (s, pf, (↑s.length : Int), 0)
noncomputable def P_ix12 : ((List (SId)) × (List (SId))) → Bool
  | (s, pf) => decide (s.length ≤ 1099511627776) && P_ix12_0 s (s, pf, (↑s.length : Int), 0)
theorem ix12_auto : ∀ a : (List (SId)) × (List (SId)), Rns (fun f => M_ix12 f a) (P_ix12 a) (F_ix12 a)
  | (s, pf) => ev_step (fun f => M_ix12_eq f _ _) (ev_and fun hh => A_ix12_0 _ _ _ _ _ rfl (by first | rfl | simp) (of_decide_eq_true hh))
theorem ix12_0 (s : List SId) (q : List SId) (x7 : Int) (hq : len40n q = true) : ∀ (r : List SId) (k : Nat), F_ix12_0 r (s, q, x7, k) = findI (fun b => !memD b q) r ((k : Nat) : Int) ∧ P_ix12_0 r (s, q, x7, k) = true
  | [], k => ⟨rfl, rfl⟩
  | u :: r, k => by
    obtain ⟨i1, i2⟩ := ix12_0 s q x7 hq r (k + 1)
    simp only [F_ix12_0, P_ix12_0, i1, i2, hq, findI]
    cases memD u q <;> exact ⟨rfl, rfl⟩
theorem ix12_P : ∀ a : List SId × List SId, (fun a : List SId × List SId => len40n a.1 && len40n a.2) a = true → P_ix12 a = true := fun a h => by
  obtain ⟨h1, h2⟩ := Bool.and_eq_true_iff.1 h
  simp only [P_ix12, (ix12_0 a.1 a.2 _ h2 a.1 0).2, Bool.and_true]
  exact h1
theorem ix12_F : ∀ a : List SId × List SId, (fun a : List SId × List SId => len40n a.1 && len40n a.2) a = true → F_ix12 a = (fun a : List SId × List SId => findI (fun b => !memD b a.2) a.1 0) a := fun a h => by
  obtain ⟨h1, h2⟩ := Bool.and_eq_true_iff.1 h
  simp only [F_ix12, (ix12_0 a.1 a.2 _ h2 a.1 0).1]; rfl
theorem ix12_run : ∀ a, (fun a => len40n a.1 && len40n a.2 : (List (SId)) × (List (SId)) → Bool) a = true → ∃ f, M_ix12 f a = some ((fun a => findI (fun b => !memD b a.2) a.1 0 : (List (SId)) × (List (SId)) → Int) a) := fun a h => by have h1 := ix12_auto a (ix12_P a h); rw [ix12_F a h] at h1; exact h1
noncomputable def E_ix12 : Ent := ⟨112, [.rd tSId, .fn 78 [[.sl [.int .i64, .int .i64, .int .i64]]]], [.v (.int .i64)], fun a => (fun a => len40n a.1 && len40n a.2 : (List (SId)) × (List (SId)) → Bool) a, fun a => (fun a => findI (fun b => !memD b a.2) a.1 0 : (List (SId)) × (List (SId)) → Int) a⟩
theorem E_ix12_ok : E_ix12.Ok Try.prog := fun a hp vs hv => (ix12_run a hp).elim fun f h => fnX_ok (C := C_ix12) (Lt := Lt_ix12) (fn := Try.f112) (rs := [.tmp 4]) [.rd tSId, .fn 78 [[.sl [.int .i64, .int .i64, .int .i64]]]] [.v (.int .i64)] mixed es_ix12 Try.func112 rfl rfl rfl (by kernel_rfl) (by kernel_rfl) f h vs hv
noncomputable def C_cf12 : Cfg := ⟨Try.prog, [E_ix12], pmT [], 9, [], []⟩
theorem es_cf12 : EsOk Try.prog [E_ix12] [] := es_cons E_ix12_ok (es_nil)
def Lt_cf12 : Nat → LD := ldT []
noncomputable def M_cf12 (f : Nat) (a : (List (SId)) × (List (SId))) : Option (Bool) := (runX (C_cf12) Lt_cf12 (Kret Try.prog [.tmp 4] [.v (.bool)]) f [.code (bodyOf Try.f77)] (initX [.rd tSId, .fn 78 [[.sl [.int .i64, .int .i64, .int .i64]]]] a) : Option (ResT [.v (.bool)]))
theorem M_cf12_eq (f : Nat) (s : List (SId)) (pf : List (SId)) : M_cf12 (f + 1) (s, pf) =
    bif len40n s && len40n pf then some (decide (findI (fun b => !memD b pf) s 0 ≥ 0)) else none := by kernel_rfl
noncomputable def F_cf12 : ((List (SId)) × (List (SId))) → Bool
  | (s, pf) => decide (findI (fun b => !memD b pf) s 0 ≥ 0)
noncomputable def P_cf12 : ((List (SId)) × (List (SId))) → Bool
  | (s, pf) => len40n s && len40n pf
theorem cf12_auto : ∀ a : (List (SId)) × (List (SId)), Rns (fun f => M_cf12 f a) (P_cf12 a) (F_cf12 a)
  | (s, pf) => ev_step (fun f => M_cf12_eq f _ _) (ev_chk1 ev_some)
theorem cf12_P : ∀ a : List SId × List SId, (fun a : List SId × List SId => len40n a.1 && len40n a.2) a = true → P_cf12 a = true := fun a h => h
theorem cf12_F : ∀ a : List SId × List SId, (fun a : List SId × List SId => len40n a.1 && len40n a.2) a = true → F_cf12 a = (fun a : List SId × List SId => a.1.any (fun b => !memD b a.2)) a := fun a h => find_any _ a.1 0 (Int.le_refl _)
theorem cf12_run : ∀ a, (fun a => len40n a.1 && len40n a.2 : (List (SId)) × (List (SId)) → Bool) a = true → ∃ f, M_cf12 f a = some ((fun a => a.1.any (fun b => !memD b a.2) : (List (SId)) × (List (SId)) → Bool) a) := fun a h => by have h1 := cf12_auto a (cf12_P a h); rw [cf12_F a h] at h1; exact h1
noncomputable def E_cf12 : Ent := ⟨77, [.rd tSId, .fn 78 [[.sl [.int .i64, .int .i64, .int .i64]]]], [.v (.bool)], fun a => (fun a => len40n a.1 && len40n a.2 : (List (SId)) × (List (SId)) → Bool) a, fun a => (fun a => a.1.any (fun b => !memD b a.2) : (List (SId)) × (List (SId)) → Bool) a⟩
theorem E_cf12_ok : E_cf12.Ok Try.prog := fun a hp vs hv => (cf12_run a hp).elim fun f h => fnX_ok (C := C_cf12) (Lt := Lt_cf12) (fn := Try.f77) (rs := [.tmp 4]) [.rd tSId, .fn 78 [[.sl [.int .i64, .int .i64, .int .i64]]]] [.v (.bool)] mixed es_cf12 Try.func77 rfl rfl rfl (by kernel_rfl) (by kernel_rfl) f h vs hv
def fl1Pre (a : STr × List Int × List SId) : Bool := trPre a.1 && (len40n a.2.1 && len40n a.2.2)
theorem all_any {α : Type} (l : List α) (p : α → Bool) : (!l.any (fun b => !p b)) = l.all p := by
  induction l with
  | nil => rfl
  | cons a l ih => rw [List.any_cons, List.all_cons, ← ih]; cases p a <;> rfl
noncomputable def C_flu1 : Cfg := ⟨Try.prog, [E_cf11, E_cf12], pmT [], 17, [], []⟩
theorem es_flu1 : EsOk Try.prog [E_cf11, E_cf12] [] := es_cons E_cf11_ok (es_cons E_cf12_ok (es_nil))
def Lt_flu1 : Nat → LD := ldT []
noncomputable def M_flu1 (f : Nat) (a : STr × (List (Int)) × (List (SId))) : Option (Bool) := (runX (C_flu1) Lt_flu1 (Kret Try.prog [.tmp 4] [.v (.bool)]) f [.code (bodyOf Try.f74)] (initX [.g tSTr, .cp [.sl [.int .i64]], .cp [.sl [.int .i64, .int .i64, .int .i64]]] a) : Option (ResT [.v (.bool)]))
theorem M_flu1_eq (f : Nat) (t : STr) (tables : List (Int)) (live : List (SId)) : M_flu1 (f + 1) (t, tables, live) =
    bif len40n t.2.2.2.2.2 && len40n tables then bif !List.any t.2.2.2.2.2 fun b => !memD b tables then bif len40n t.2.2.2.2.1 && len40n live then some !List.any t.2.2.2.2.1 fun b => !memD b live else none else some false else none := by kernel_rfl
noncomputable def F_flu1 : (STr × (List (Int)) × (List (SId))) → Bool
  | (t, tables, live) => bif !List.any t.2.2.2.2.2 fun b => !memD b tables then !List.any t.2.2.2.2.1 fun b => !memD b live else false
noncomputable def P_flu1 : (STr × (List (Int)) × (List (SId))) → Bool
  | (t, tables, live) => len40n t.2.2.2.2.2 && len40n tables && bif !List.any t.2.2.2.2.2 fun b => !memD b tables then len40n t.2.2.2.2.1 && len40n live else true
theorem flu1_auto : ∀ a : STr × (List (Int)) × (List (SId)), Rns (fun f => M_flu1 f a) (P_flu1 a) (F_flu1 a)
  | (t, tables, live) => ev_step (fun f => M_flu1_eq f _ _ _) (ev_chk (ev_bif (ev_chk1 ev_some) ev_some))
theorem flu1_F0 (t : STr) (tables : List Int) (live : List SId) : F_flu1 (t, tables, live) = keepL live tables t := by
  simp only [F_flu1, keepL]
  rw [all_any t.2.2.2.2.2 (fun b => memD b tables), all_any t.2.2.2.2.1 (fun b => memD b live)]
  cases t.2.2.2.2.2.all (fun b => memD b tables)
  · rw [Bool.and_false]; rfl
  · rw [Bool.and_true]; rfl
theorem flu1_P : ∀ a : STr × List Int × List SId, fl1Pre a = true → P_flu1 a = true := by
  rintro ⟨t, tables, live⟩ h
  obtain ⟨h0, h12⟩ := Bool.and_eq_true_iff.1 h
  obtain ⟨h1, h2⟩ := Bool.and_eq_true_iff.1 h12
  obtain ⟨k1, k2⟩ := Bool.and_eq_true_iff.1 (tr40 h0)
  have h1 : len40n tables = true := h1
  have h2 : len40n live = true := h2
  have k1 : len40n t.2.2.2.2.1 = true := k1
  have k2 : len40n t.2.2.2.2.2 = true := k2
  simp only [P_flu1, h1, h2, k1, k2, Bool.true_and, Bool.and_self]
  cases (!t.2.2.2.2.2.any fun b => !memD b tables) <;> rfl
theorem flu1_F : ∀ a : STr × List Int × List SId, fl1Pre a = true → F_flu1 a = (fun a : STr × List Int × List SId => keepL a.2.2 a.2.1 a.1) a := fun a _ => flu1_F0 a.1 a.2.1 a.2.2
theorem flu1_run : ∀ a, (fl1Pre : STr × (List (Int)) × (List (SId)) → Bool) a = true → ∃ f, M_flu1 f a = some ((fun a => keepL a.2.2 a.2.1 a.1 : STr × (List (Int)) × (List (SId)) → Bool) a) := fun a h => by have h1 := flu1_auto a (flu1_P a h); rw [flu1_F a h] at h1; exact h1
noncomputable def E_flu1 : Ent := ⟨74, [.g tSTr, .cp [.sl [.int .i64]], .cp [.sl [.int .i64, .int .i64, .int .i64]]], [.v (.bool)], fun a => (fl1Pre : STr × (List (Int)) × (List (SId)) → Bool) a, fun a => (fun a => keepL a.2.2 a.2.1 a.1 : STr × (List (Int)) × (List (SId)) → Bool) a⟩
theorem E_flu1_ok : E_flu1.Ok Try.prog := fun a hp vs hv => (flu1_run a hp).elim fun f h => fnX_ok (C := C_flu1) (Lt := Lt_flu1) (fn := Try.f74) (rs := [.tmp 4]) [.g tSTr, .cp [.sl [.int .i64]], .cp [.sl [.int .i64, .int .i64, .int .i64]]] [.v (.bool)] mixed es_flu1 Try.func74 rfl rfl rfl (by kernel_rfl) (by kernel_rfl) f h vs hv
noncomputable def C_flq : Cfg := ⟨Try.prog, [E_ctr, E_flu1], pmT [], 24, [], []⟩
theorem es_flq : EsOk Try.prog [E_ctr, E_flu1] [] := es_cons E_ctr_ok (es_cons E_flu1_ok (es_nil))
def Lt_flq : Nat → LD := ldT [(0, ⟨[.fn 1 74 [[.sl [.int .i64]], [.sl [.int .i64, .int .i64, .int .i64]]], .list 5 999 45 6 tSTr, .rd 8 tSTr, .c 9 (.int .i64), .c 10 (.int .i64)], []⟩)]
noncomputable def M_flq (f : Nat) (a : (List (STr)) × (List (Int) × List (SId))) : Option ((List (STr))) := (runX (C_flq) Lt_flq (Kret Try.prog [.tmp 4] [.o 45 6 tSTr]) f [.code (bodyOf Try.f71)] (initX [.rd tSTr, .fn 74 [[.sl [.int .i64]], [.sl [.int .i64, .int .i64, .int .i64]]]] a) : Option (ResT [.o 45 6 tSTr]))
noncomputable def L_flq_0 (f : Nat) (x : (List (Int) × List (SId)) × (List (STr)) × (List (STr)) × Int × Int) : Option ((List (STr))) := (runX (C_flq) Lt_flq (Kret Try.prog [.tmp 4] [.o 45 6 tSTr]) f (headOf Try.f71 0) ((Lt_flq 0).mk' x) : Option (ResT [.o 45 6 tSTr]))
theorem M_flq_eq (f : Nat) (tlb : List (STr)) (keep : List (Int) × List (SId)) : M_flq (f + 1) (tlb, keep) =
    L_flq_0 f (keep, [], tlb, (↑tlb.length : Int), 0) := by kernel_rfl
theorem L_flq_0_eq (f : Nat) (keep : List (Int) × List (SId)) (out : List (STr)) (x8 : List (STr)) (x9 : Int) (x10 : Int) : L_flq_0 (f + 1) (keep, out, x8, x9, x10) =
    bif decide (x10 < x9) then bif decide (0 ≤ x10) && decide (x10 < (↑x8.length : Int)) then bif fl1Pre (x8.getD x10.toNat (0, 0, 0, 0, [], []), keep) then bif keepL keep.2 keep.1 (x8.getD x10.toNat (0, 0, 0, 0, [], [])) then bif len40n (x8.getD x10.toNat (0, 0, 0, 0, [], [])).2.2.2.2.1 && len40n (x8.getD x10.toNat (0, 0, 0, 0, [], [])).2.2.2.2.2 then bif decide ((out.length + [x8.getD x10.toNat (0, 0, 0, 0, [], [])].length) * 80 ≤ 140737488355328) then L_flq_0 f (keep, out ++ [x8.getD x10.toNat (0, 0, 0, 0, [], [])], x8, x9, IntKind.i64.wrap (x10 + 1)) else none else none else L_flq_0 f (keep, out, x8, x9, IntKind.i64.wrap (x10 + 1)) else none else none else some out := by kernel_rfl
noncomputable def F_flq_0 : List (STr) → ((List (Int) × List (SId)) × (List (STr)) × (List (STr)) × Int × Nat) → (List (STr))
  | [], (keep, out, x8, x9, x10) => out
  | uu :: rest, (keep, out, x8, x9, x10) => bif keepL keep.2 keep.1 uu then F_flq_0 rest (keep, out ++ [uu], x8, x9, x10 + 1) else F_flq_0 rest (keep, out, x8, x9, x10 + 1)
noncomputable def P_flq_0 : List (STr) → ((List (Int) × List (SId)) × (List (STr)) × (List (STr)) × Int × Nat) → Bool
  | [], (keep, out, x8, x9, x10) => true
  | uu :: rest, (keep, out, x8, x9, x10) => fl1Pre (uu, keep) && bif keepL keep.2 keep.1 uu then len40n uu.2.2.2.2.1 && len40n uu.2.2.2.2.2 && (decide ((out.length + [uu].length) * 80 ≤ 140737488355328) && P_flq_0 rest (keep, out ++ [uu], x8, x9, x10 + 1)) else P_flq_0 rest (keep, out, x8, x9, x10 + 1)
theorem A_flq_0 : ∀ (rest : List (STr)) (keep : List (Int) × List (SId)) (out : List (STr)) (x8 : List (STr)) (x9 : Int) (x10 : Nat) (hd : x8.drop x10 = rest) (hn : x9 = ((x8.length : Nat) : Int)) (hl : x8.length ≤ 1099511627776), Rns (fun f => L_flq_0 f (keep, out, x8, x9, ((x10 : Nat) : Int))) (P_flq_0 rest (keep, out, x8, x9, x10)) (F_flq_0 rest (keep, out, x8, x9, x10))
  | [], keep, out, x8, x9, x10, hd, hn, hl => ev_step (T := fun f => some out) (fun f => (L_flq_0_eq f _ _ _ _ _).trans (by simp only [ge_decn hn (drop_ge hd), ge0, Bool.and_self, Bool.true_and, cond_true, cond_false, List.length_set] <;> rfl)) ev_some
  | uu :: rest, keep, out, x8, x9, x10, hd, hn, hl => ev_step (T := fun f => bif fl1Pre (uu, keep) then bif keepL keep.2 keep.1 uu then bif len40n uu.2.2.2.2.1 && len40n uu.2.2.2.2.2 then bif decide ((out.length + [uu].length) * 80 ≤ 140737488355328) then L_flq_0 f (keep, out ++ [uu], x8, x9, (↑(x10 + 1) : Int)) else none else none else L_flq_0 f (keep, out, x8, x9, (↑(x10 + 1) : Int)) else none) (fun f => (L_flq_0_eq f _ _ _ _ _).trans (by simp only [lt_decn hn (drop_lt hd), lt_dec (drop_lt hd), drop_get hd, wrap_succ (drop_lt hd) hl, getD_set (drop_lt hd), ge0, Bool.and_self, Bool.true_and, cond_true, cond_false, List.length_set] <;> rfl)) (ev_chk (ev_bif (ev_chk (ev_chk (A_flq_0 rest _ _ _ _ _ (by first | exact drop_succ hd | exact drop_set hd | exact drop_setS (drop_set hd)) (by first | exact hn | simpa using hn) (by first | exact hl | simpa using hl)))) (A_flq_0 rest _ _ _ _ _ (by first | exact drop_succ hd | exact drop_set hd | exact drop_setS (drop_set hd)) (by first | exact hn | simpa using hn) (by first | exact hl | simpa using hl))))
noncomputable def F_flq : ((List (STr)) × (List (Int) × List (SId))) → (List (STr))
  | (tlb, keep) => F_flq_0 tlb (keep, [], tlb, (↑tlb.length : Int), 0)
noncomputable def P_flq : ((List (STr)) × (List (Int) × List (SId))) → Bool
  | (tlb, keep) => decide (tlb.length ≤ 1099511627776) && P_flq_0 tlb (keep, [], tlb, (↑tlb.length : Int), 0)
theorem flq_auto : ∀ a : (List (STr)) × (List (Int) × List (SId)), Rns (fun f => M_flq f a) (P_flq a) (F_flq a)
  | (tlb, keep) => ev_step (fun f => M_flq_eq f _ _) (ev_and fun hh => A_flq_0 _ _ _ _ _ _ rfl (by first | rfl | simp) (of_decide_eq_true hh))
theorem flq_0 (q : List Int × List SId) (h1 : len40n q.1 = true) (h2 : len40n q.2 = true) (x8 : List STr) (x9 : Int) : ∀ (r out : List STr) (k : Nat), (∀ e ∈ r, trPre e = true) → out.length + r.length ≤ 68719476736 → F_flq_0 r (q, out, x8, x9, k) = out ++ r.filter (keepL q.2 q.1) ∧ P_flq_0 r (q, out, x8, x9, k) = true
  | [], out, k, h, hl => ⟨by simp [F_flq_0], rfl⟩
  | u :: r, out, k, h, hl => by
    simp only [List.length_cons] at hl
    have h0 := h u (List.mem_cons_self ..)
    have hp : fl1Pre (u, q) = true := by simp only [fl1Pre, h0, h1, h2, Bool.and_self]
    have hu := tr40 h0
    obtain ⟨i1, i2⟩ := flq_0 q h1 h2 x8 x9 r (out ++ [u]) (k + 1) (fun e he => h e (List.mem_cons_of_mem _ he)) (by simp; omega)
    obtain ⟨j1, j2⟩ := flq_0 q h1 h2 x8 x9 r out (k + 1) (fun e he => h e (List.mem_cons_of_mem _ he)) (by omega)
    have e80 : decide ((out.length + [u].length) * 80 ≤ 140737488355328) = true := decide_eq_true (by simp only [List.length_singleton]; omega)
    simp only [F_flq_0, P_flq_0, i1, i2, j1, j2, hp, hu, e80, Bool.true_and, List.filter_cons]
    cases hk : keepL q.2 q.1 u
    · exact ⟨rfl, rfl⟩
    · refine ⟨?_, rfl⟩
      simp only [cond_true, if_true, List.append_assoc, List.singleton_append]
def flqPre (a : List STr × List Int × List SId) : Bool := okL a.1 && (len40n a.2.1 && len40n a.2.2)
theorem flq_P : ∀ a : List STr × List Int × List SId, flqPre a = true → P_flq a = true := fun a h => by
  obtain ⟨h0, h12⟩ := Bool.and_eq_true_iff.1 h
  obtain ⟨h1, h2⟩ := Bool.and_eq_true_iff.1 h12
  simp only [P_flq, (flq_0 a.2 h1 h2 _ _ a.1 [] 0 (fun e he => okL_mem h0 he) (by simpa using okL_len h0)).2, Bool.and_true]
  exact decide_eq_true (by have := okL_len h0; omega)
theorem flq_F : ∀ a : List STr × List Int × List SId, flqPre a = true → F_flq a = (fun a : List STr × List Int × List SId => a.1.filter (keepL a.2.2 a.2.1)) a := fun a h => by
  obtain ⟨h0, h12⟩ := Bool.and_eq_true_iff.1 h
  obtain ⟨h1, h2⟩ := Bool.and_eq_true_iff.1 h12
  simp only [F_flq, (flq_0 a.2 h1 h2 _ _ a.1 [] 0 (fun e he => okL_mem h0 he) (by simpa using okL_len h0)).1, List.nil_append]
theorem flq_run : ∀ a, (flqPre : (List (STr)) × (List (Int) × List (SId)) → Bool) a = true → ∃ f, M_flq f a = some ((fun a => a.1.filter (keepL a.2.2 a.2.1) : (List (STr)) × (List (Int) × List (SId)) → (List (STr))) a) := fun a h => by have h1 := flq_auto a (flq_P a h); rw [flq_F a h] at h1; exact h1
noncomputable def E_flq : Ent := ⟨71, [.rd tSTr, .fn 74 [[.sl [.int .i64]], [.sl [.int .i64, .int .i64, .int .i64]]]], [.o 45 6 tSTr], fun a => (flqPre : (List (STr)) × (List (Int) × List (SId)) → Bool) a, fun a => (fun a => a.1.filter (keepL a.2.2 a.2.1) : (List (STr)) × (List (Int) × List (SId)) → (List (STr))) a⟩
theorem E_flq_ok : E_flq.Ok Try.prog := fun a hp vs hv => (flq_run a hp).elim fun f h => fnX_ok (C := C_flq) (Lt := Lt_flq) (fn := Try.f71) (rs := [.tmp 4]) [.rd tSTr, .fn 74 [[.sl [.int .i64]], [.sl [.int .i64, .int .i64, .int .i64]]]] [.o 45 6 tSTr] mixed es_flq Try.func71 rfl rfl rfl (by kernel_rfl) (by kernel_rfl) f h vs hv
noncomputable def C_vflu : Cfg := ⟨Try.prog, [E_flq], pmT [], 10, [], []⟩
theorem es_vflu : EsOk Try.prog [E_flq] [] := es_cons E_flq_ok (es_nil)
def Lt_vflu : Nat → LD := ldT []
noncomputable def M_vflu (f : Nat) (a : (List (STr)) × (List (SId)) × (List (Int))) : Option ((List (STr))) := (runX (C_vflu) Lt_vflu (Kret Try.prog [.tmp 6] [.o 45 6 tSTr]) f [.code (bodyOf Try.f46)] (initX [.rd tSTr, .c (.sl [.int .i64, .int .i64, .int .i64]), .c (.sl [.int .i64])] a) : Option (ResT [.o 45 6 tSTr]))
theorem M_vflu_eq (f : Nat) (tlb : List (STr)) (live : List (SId)) (tables : List (Int)) : M_vflu (f + 1) (tlb, live, tables) =
    bif flqPre (tlb, tables, live) then some (List.filter (keepL live tables) tlb) else none := by kernel_rfl
noncomputable def F_vflu : ((List (STr)) × (List (SId)) × (List (Int))) → (List (STr))
  | (tlb, live, tables) => List.filter (keepL live tables) tlb
noncomputable def P_vflu : ((List (STr)) × (List (SId)) × (List (Int))) → Bool
  | (tlb, live, tables) => flqPre (tlb, tables, live)
theorem vflu_auto : ∀ a : (List (STr)) × (List (SId)) × (List (Int)), Rns (fun f => M_vflu f a) (P_vflu a) (F_vflu a)
  | (tlb, live, tables) => ev_step (fun f => M_vflu_eq f _ _ _) (ev_chk1 ev_some)
theorem vflu_P : ∀ a : List STr × List SId × List Int, fluPre a = true → P_vflu a = true := fun a h => by
  obtain ⟨h0, h12⟩ := Bool.and_eq_true_iff.1 h
  obtain ⟨h1, h2⟩ := Bool.and_eq_true_iff.1 h12
  simp only [P_vflu, flqPre, h0, h1, h2]; rfl
theorem vflu_F : ∀ a : List STr × List SId × List Int, fluPre a = true → F_vflu a = fluS a := fun a h => rfl
theorem vflu_run : ∀ a, (fluPre : (List (STr)) × (List (SId)) × (List (Int)) → Bool) a = true → ∃ f, M_vflu f a = some ((fluS : (List (STr)) × (List (SId)) × (List (Int)) → (List (STr))) a) := fun a h => by have h1 := vflu_auto a (vflu_P a h); rw [vflu_F a h] at h1; exact h1
noncomputable def E_vflu : Ent := ⟨46, [.rd tSTr, .c (.sl [.int .i64, .int .i64, .int .i64]), .c (.sl [.int .i64])], [.o 45 6 tSTr], fun a => (fluPre : (List (STr)) × (List (SId)) × (List (Int)) → Bool) a, fun a => (fluS : (List (STr)) × (List (SId)) × (List (Int)) → (List (STr))) a⟩
theorem E_vflu_ok : E_vflu.Ok Try.prog := fun a hp vs hv => (vflu_run a hp).elim fun f h => fnX_ok (C := C_vflu) (Lt := Lt_vflu) (fn := Try.f46) (rs := [.tmp 6]) [.rd tSTr, .c (.sl [.int .i64, .int .i64, .int .i64]), .c (.sl [.int .i64])] [.o 45 6 tSTr] mixed es_vflu Try.func46 rfl rfl rfl (by kernel_rfl) (by kernel_rfl) f h vs hv
end Go.AL
/-
  Layer 16: VspaceCacheExact: what it computes. By an AI agent.
-/
namespace Go.AL
open Go.Proofs
set_option linter.unusedVariables false
set_option linter.unusedSimpArgs false
noncomputable def C_cidp : Cfg := ⟨Try.prog, [], pmT [], 5, [], []⟩
theorem es_cidp : EsOk Try.prog [] [] := es_nil
def Lt_cidp : Nat → LD := ldT []
noncomputable def M_cidp (f : Nat) (a : (List (SId))) : Option ((List (SId))) := (runX (C_cidp) Lt_cidp (Kret Try.prog [.tmp 2] [.v (.sl tSId)]) f [.code (bodyOf Try.f27)] (initX [.rd tSId] a) : Option (ResT [.v (.sl tSId)]))
theorem M_cidp_eq (f : Nat) (l : List (SId)) : M_cidp (f + 1) l =
    bif decide (l.length * 24 ≤ 140737488355328) then some l else none := by kernel_rfl
noncomputable def F_cidp : (List (SId)) → (List (SId))
  | l => l
noncomputable def P_cidp : (List (SId)) → Bool
  | l => decide (l.length * 24 ≤ 140737488355328)
theorem cidp_auto : ∀ a : (List (SId)), Rns (fun f => M_cidp f a) (P_cidp a) (F_cidp a)
  | l => ev_step (fun f => M_cidp_eq f _) (ev_chk1 ev_some)
theorem cidp_P : ∀ l : List SId, len40n l = true → P_cidp l = true := fun l h => by
  simp only [P_cidp]
  exact decide_eq_true (by have : l.length ≤ 1099511627776 := of_decide_eq_true h; omega)
theorem cidp_F : ∀ l : List SId, len40n l = true → F_cidp l = (fun l => l) l := fun l h => rfl
theorem cidp_run : ∀ a, (len40n : (List (SId)) → Bool) a = true → ∃ f, M_cidp f a = some ((fun l => l : (List (SId)) → (List (SId))) a) := fun a h => by have h1 := cidp_auto a (cidp_P a h); rw [cidp_F a h] at h1; exact h1
noncomputable def E_cidp : Ent := ⟨27, [.rd tSId], [.v (.sl tSId)], fun a => (len40n : (List (SId)) → Bool) a, fun a => (fun l => l : (List (SId)) → (List (SId))) a⟩
theorem E_cidp_ok : E_cidp.Ok Try.prog := fun a hp vs hv => (cidp_run a hp).elim fun f h => fnX_ok (C := C_cidp) (Lt := Lt_cidp) (fn := Try.f27) (rs := [.tmp 2]) [.rd tSId] [.v (.sl tSId)] mixed es_cidp Try.func27 rfl rfl rfl (by kernel_rfl) (by kernel_rfl) f h vs hv
noncomputable def C_short : Cfg := ⟨Try.prog, [], pmT [], 33, [], []⟩
theorem es_short : EsOk Try.prog [] [] := es_nil
def Lt_short : Nat → LD := ldT [(0, ⟨[.rd 0 tSTr, .c 3 (.int .i64)], []⟩)]
noncomputable def M_short (f : Nat) (a : (List (STr))) : Option (Bool) := (runX (C_short) Lt_short (Kret Try.prog [.tmp 2] [.v (.bool)]) f [.code (bodyOf Try.f35)] (initX [.rd tSTr] a) : Option (ResT [.v (.bool)]))
noncomputable def L_short_0 (f : Nat) (x : (List (STr)) × Int) : Option (Bool) := (runX (C_short) Lt_short (Kret Try.prog [.tmp 2] [.v (.bool)]) f (headOf Try.f35 0) ((Lt_short 0).mk' x) : Option (ResT [.v (.bool)]))
theorem M_short_eq (f : Nat) (l : List (STr)) : M_short (f + 1) l =
    L_short_0 f (l, 0) := by kernel_rfl
theorem L_short_0_eq (f : Nat) (l : List (STr)) (i : Int) : L_short_0 (f + 1) (l, i) =
    bif decide (i < (↑l.length : Int)) then bif decide (i < 20) then bif decide (0 ≤ i) && decide (i < (↑l.length : Int)) then bif decide ((↑(List.length (l.getD i.toNat (0, 0, 0, 0, [], [])).2.2.2.2.1) : Int) > 10) then some false else bif decide (0 ≤ i) && decide (i < (↑l.length : Int)) then bif decide ((↑(List.length (l.getD i.toNat (0, 0, 0, 0, [], [])).2.2.2.2.2) : Int) > 10) then some false else L_short_0 f (l, IntKind.i64.wrap (i + 1)) else none else none else some (decide ((↑l.length : Int) ≤ 20)) else some (decide ((↑l.length : Int) ≤ 20)) := by kernel_rfl
noncomputable def F_short_0 : List (STr) → ((List (STr)) × Nat) → Bool
  | [], (l, i) => decide ((↑l.length : Int) ≤ 20)
  | uu :: rest, (l, i) => bif decide ((↑i : Int) < 20) then bif decide ((↑(List.length uu.2.2.2.2.1) : Int) > 10) then false else bif decide ((↑(List.length uu.2.2.2.2.2) : Int) > 10) then false else F_short_0 rest (l, i + 1) else decide ((↑l.length : Int) ≤ 20)
noncomputable def F_short : (List (STr)) → Bool
  | l => F_short_0 l (l, 0)
theorem short_loop : ∀ (rest pre : List STr), pre.length ≤ 20 → ∃ f, L_short_0 f (pre ++ rest, ((pre.length : Nat) : Int)) = some (F_short_0 rest (pre ++ rest, pre.length))
  | [], pre, hp => ⟨1, (L_short_0_eq 0 _ _).trans (by rw [lt_end]; rfl)⟩
  | u :: rest, pre, hp => by
    have e1 : IntKind.i64.wrap (((pre.length : Nat) : Int) + 1) = ((pre.length + 1 : Nat) : Int) := by rw [i64_id (by omega) (by omega)]; rfl
    by_cases h1 : ((pre.length : Nat) : Int) < 20
    case neg =>
      refine ⟨1, (L_short_0_eq 0 _ _).trans ?_⟩
      rw [lt_mid]
      simp only [F_short_0, decide_eq_false h1]; rfl
    by_cases h2 : ((u.2.2.2.2.1.length : Nat) : Int) > 10
    · refine ⟨1, (L_short_0_eq 0 _ _).trans ?_⟩
      rw [lt_mid, getD_mid, ge0]
      simp only [F_short_0, decide_eq_true h1, decide_eq_true h2]; rfl
    by_cases h3 : ((u.2.2.2.2.2.length : Nat) : Int) > 10
    · refine ⟨1, (L_short_0_eq 0 _ _).trans ?_⟩
      rw [lt_mid, getD_mid, ge0]
      simp only [F_short_0, decide_eq_true h1, decide_eq_false h2, decide_eq_true h3]; rfl
    obtain ⟨f, hf⟩ := short_loop rest (pre ++ [u]) (by simp; omega)
    refine ⟨f + 1, (L_short_0_eq f _ _).trans ?_⟩
    rw [lt_mid, getD_mid, ge0, e1]
    simp only [F_short_0, decide_eq_true h1, decide_eq_false h2, decide_eq_false h3, cond_true, cond_false, Bool.and_self]
    rw [show (pre ++ [u]).length = pre.length + 1 by simp, List.append_assoc] at hf
    exact hf
theorem short_run : ∀ a, (fun _ => true) a = true → ∃ f, M_short f a = some (F_short a) := fun a _ => by
  obtain ⟨f, hf⟩ := short_loop a [] (by simp)
  exact ⟨f + 1, (M_short_eq f _).trans hf⟩
noncomputable def E_short : Ent := ⟨35, [.rd tSTr], [.v (.bool)], fun a => (fun _ => true : (List (STr)) → Bool) a, fun a => (F_short : (List (STr)) → Bool) a⟩
theorem E_short_ok : E_short.Ok Try.prog := fun a hp vs hv => (short_run a hp).elim fun f h => fnX_ok (C := C_short) (Lt := Lt_short) (fn := Try.f35) (rs := [.tmp 2]) [.rd tSTr] [.v (.bool)] mixed es_short Try.func35 rfl rfl rfl (by kernel_rfl) (by kernel_rfl) f h vs hv
theorem short_0 (l : List STr) : ∀ (r p : List STr), l = p ++ r → p.length ≤ 20 → F_short_0 r (l, p.length) = true → l.length ≤ 20 ∧ ∀ e ∈ r, e.2.2.2.2.1.length ≤ 10 ∧ e.2.2.2.2.2.length ≤ 10
  | [], p, hl, hp, h => by
    simp only [F_short_0, decide_eq_true_eq] at h
    exact ⟨by omega, fun e he => by cases he⟩
  | u :: r, p, hl, hp, h => by
    simp only [F_short_0] at h
    by_cases h5 : ((p.length : Nat) : Int) < 20
    · rw [decide_eq_true h5, cond_true] at h
      by_cases h2 : ((u.2.2.2.2.1.length : Nat) : Int) > 10
      · rw [decide_eq_true h2] at h; cases h
      · rw [decide_eq_false h2, cond_false] at h
        by_cases h3 : ((u.2.2.2.2.2.length : Nat) : Int) > 10
        · rw [decide_eq_true h3] at h; cases h
        · rw [decide_eq_false h3, cond_false] at h
          obtain ⟨i1, i2⟩ := short_0 l r (p ++ [u]) (by simpa using hl) (by simp; omega) (by simpa using h)
          refine ⟨i1, fun e he => ?_⟩
          rcases List.mem_cons.1 he with rfl | he
          · omega
          · exact i2 e he
    · rw [decide_eq_false h5, cond_false, decide_eq_true_eq] at h
      rw [hl] at h; simp at h; omega
theorem short_ok {l : List STr} (h : F_short l = true) : l.length ≤ 20 ∧ ∀ e ∈ l, e.2.2.2.2.1.length ≤ 10 ∧ e.2.2.2.2.2.length ≤ 10 := short_0 l l [] rfl (by simp) h
def okLn (n : Nat) (l : List STr) : Prop := l.length ≤ n ∧ ∀ e ∈ l, e.2.2.2.2.1.length ≤ n ∧ e.2.2.2.2.2.length ≤ n
theorem okLn_okL {n : Nat} (hn : n ≤ 68719476736) {l : List STr} (h : okLn n l) : okL l = true := by
  refine Bool.and_eq_true_iff.2 ⟨decide_eq_true (Nat.le_trans h.1 hn), List.all_eq_true.2 fun t ht => ?_⟩
  obtain ⟨h1, h2⟩ := h.2 t ht
  exact Bool.and_eq_true_iff.2 ⟨decide_eq_true (Nat.le_trans h1 hn), decide_eq_true (Nat.le_trans h2 hn)⟩
noncomputable def C_vcx : Cfg := ⟨Try.prog, [E_short, E_awk, E_cpd, E_look, E_rlook, E_str, E_rctr, E_vfil, E_rfil, E_stlb, E_vdrp, E_rdrp, E_cidp, E_vflu, E_rflu], pmT [(5, ([(0, []), (1, []), (2, []), (3, []), (4, []), (5, []), (6, []), (7, []), (8, []), (9, []), (11, []), (14, []), (15, []), (10, []), (12, []), (13, []), (16, []), (17, []), (18, []), (19, []), (20, []), (22, []), (24, []), (25, []), (21, []), (23, []), (26, []), (27, []), (28, []), (29, []), (30, []), (32, []), (34, []), (37, []), (38, []), (39, []), (31, []), (33, []), (35, []), (36, []), (40, []), (41, []), (42, []), (43, []), (44, []), (45, []), (46, [])], [(14, 14), (54, 99)]))], 100, [], [(89, [.int .i64])]⟩
theorem es_vcx : EsOk Try.prog [E_short, E_awk, E_cpd, E_look, E_rlook, E_str, E_rctr, E_vfil, E_rfil, E_stlb, E_vdrp, E_rdrp, E_cidp, E_vflu, E_rflu] [] := es_cons E_short_ok (es_cons E_awk_ok (es_cons E_cpd_ok (es_cons E_look_ok (es_cons E_rlook_ok (es_cons E_str_ok (es_cons E_rctr_ok (es_cons E_vfil_ok (es_cons E_rfil_ok (es_cons E_stlb_ok (es_cons E_vdrp_ok (es_cons E_rdrp_ok (es_cons E_cidp_ok (es_cons E_vflu_ok (es_cons E_rflu_ok (es_nil)))))))))))))))
def Lt_vcx : Nat → LD := ldT []
noncomputable def M_vcx (f : Nat) (a : (List (STr)) × STr × Int × Int × SId × (List (SId)) × (List (Int))) : Option (Bool) := (runX (C_vcx) Lt_vcx (Kret Try.prog [.tmp 14] [.v (.bool)]) f [.code (bodyOf Try.f7)] (initX [.rd tSTr, .g tSTr, .c (.int .i64), .c (.int .i64), .g tSId, .rd tSId, .rd [.int .i64]] a) : Option (ResT [.v (.bool)]))
theorem M_vcx_eq (f : Nat) (tlb : List (STr)) (t : STr) (root : Int) (pageNo : Int) (id : SId) (live : List (SId)) (tables : List (Int)) : M_vcx (f + 1) (tlb, t, root, pageNo, id, live, tables) =
    bif !F_short tlb then some true else bif !F_short [t] then some true else bif decide ((↑live.length : Int) > 60) then some true else bif decide ((↑tables.length : Int) > 60) then some true else bif okL tlb then bif okL tlb then bif okL tlb then bif strPre ((lokS (tlb, root, pageNo)).1, (lokS (tlb, root, pageNo)).1) then bif decide ((lokS (tlb, root, pageNo)).1 = (lokS (tlb, root, pageNo)).1) then bif (lokS (tlb, root, pageNo)).2 == (lokS (tlb, root, pageNo)).2 then bif okL tlb then bif trPre t then bif filPre (tlb, t) then bif filPre (tlb, t) then bif okL (filS (tlb, t)) then bif decide (filS (tlb, t) = filS (tlb, t)) then bif okL tlb then bif okL tlb then bif okL tlb then bif okL (dropS (tlb, id)) then bif decide (dropS (tlb, id) = dropS (tlb, id)) then bif okL tlb then bif len40n live then bif decide (tables.length * 8 ≤ 140737488355328) then bif fluPre (tlb, live, tables) then bif fluPre (tlb, live, tables) then bif okL (fluS (tlb, live, tables)) then bif decide (fluS (tlb, live, tables) = fluS (tlb, live, tables)) then some true else some false else none else none else none else none else none else none else some false else none else none else none else none else some false else none else none else none else none else none else some false else some false else none else none else none else none := by kernel_rfl
noncomputable def F_vcx : ((List (STr)) × STr × Int × Int × SId × (List (SId)) × (List (Int))) → Bool
  | (tlb, t, root, pageNo, id, live, tables) => bif !F_short tlb then true else bif !F_short [t] then true else bif decide ((↑live.length : Int) > 60) then true else bif decide ((↑tables.length : Int) > 60) then true else bif decide ((lokS (tlb, root, pageNo)).1 = (lokS (tlb, root, pageNo)).1) then bif (lokS (tlb, root, pageNo)).2 == (lokS (tlb, root, pageNo)).2 then bif decide (filS (tlb, t) = filS (tlb, t)) then bif decide (dropS (tlb, id) = dropS (tlb, id)) then bif decide (fluS (tlb, live, tables) = fluS (tlb, live, tables)) then true else false else false else false else false else false
noncomputable def P_vcx : ((List (STr)) × STr × Int × Int × SId × (List (SId)) × (List (Int))) → Bool
  | (tlb, t, root, pageNo, id, live, tables) => bif !F_short tlb then true else bif !F_short [t] then true else bif decide ((↑live.length : Int) > 60) then true else bif decide ((↑tables.length : Int) > 60) then true else okL tlb && (okL tlb && (okL tlb && (strPre ((lokS (tlb, root, pageNo)).1, (lokS (tlb, root, pageNo)).1) && bif decide ((lokS (tlb, root, pageNo)).1 = (lokS (tlb, root, pageNo)).1) then bif (lokS (tlb, root, pageNo)).2 == (lokS (tlb, root, pageNo)).2 then okL tlb && (trPre t && (filPre (tlb, t) && (filPre (tlb, t) && (okL (filS (tlb, t)) && bif decide (filS (tlb, t) = filS (tlb, t)) then okL tlb && (okL tlb && (okL tlb && (okL (dropS (tlb, id)) && bif decide (dropS (tlb, id) = dropS (tlb, id)) then okL tlb && (len40n live && (decide (tables.length * 8 ≤ 140737488355328) && (fluPre (tlb, live, tables) && (fluPre (tlb, live, tables) && okL (fluS (tlb, live, tables)))))) else true))) else true)))) else true else true)))
theorem vcx_auto : ∀ a : (List (STr)) × STr × Int × Int × SId × (List (SId)) × (List (Int)), Rns (fun f => M_vcx f a) (P_vcx a) (F_vcx a)
  | (tlb, t, root, pageNo, id, live, tables) => ev_step (fun f => M_vcx_eq f _ _ _ _ _ _ _) (ev_bif ev_some (ev_bif ev_some (ev_bif ev_some (ev_bif ev_some (ev_chk (ev_chk (ev_chk (ev_chk (ev_bif (ev_bif (ev_chk (ev_chk (ev_chk (ev_chk (ev_chk (ev_bif (ev_chk (ev_chk (ev_chk (ev_chk (ev_bif (ev_chk (ev_chk (ev_chk (ev_chk (ev_chk (ev_chk1 (ev_bift ev_some ev_some))))))) ev_some))))) ev_some)))))) ev_some) ev_some)))))))))
theorem lok_mem (a : List STr × Int × Int) : (lokS a).1 = (0, 0, 0, 0, [], []) ∨ (lokS a).1 ∈ a.1 := by
  unfold lokS
  split
  · rename_i t ht; exact .inr (List.mem_of_find?_eq_some ht)
  · exact .inl rfl
theorem okLn_sub {n : Nat} {l m : List STr} (h : okLn n l) (hl : m.length ≤ n) (hm : ∀ e ∈ m, e ∈ l) : okLn n m := ⟨hl, fun e he => h.2 e (hm e he)⟩
theorem okLn_filter {n : Nat} {l : List STr} (h : okLn n l) (p : STr → Bool) : okLn n (l.filter p) := okLn_sub h (Nat.le_trans (List.length_filter_le _ _) h.1) fun e he => (List.mem_filter.1 he).1
theorem okLn_fil {l : List STr} {t : STr} (h : okLn 20 l) (h1 : t.2.2.2.2.1.length ≤ 10 ∧ t.2.2.2.2.2.length ≤ 10) : okLn 21 (filS (l, t)) := by
  have hf := okLn_filter h (keepF t)
  have e : ∀ x ∈ filS (l, t), x ∈ l.filter (keepF t) ++ [t] := fun x hx => by
    simp only [filS, cutL] at hx
    exact List.mem_of_mem_drop hx
  refine ⟨?_, fun x hx => ?_⟩
  · have : (filS (l, t)).length ≤ (l.filter (keepF t) ++ [t]).length := by simp only [filS, cutL, List.length_drop]; omega
    have := hf.1
    simp only [List.length_append, List.length_singleton] at *; omega
  · rcases List.mem_append.1 (e x hx) with h2 | h2
    · obtain ⟨k1, k2⟩ := hf.2 x h2; omega
    · rw [List.mem_singleton.1 h2]; omega
theorem vcx_P : ∀ a : List STr × STr × Int × Int × SId × List SId × List Int, P_vcx a = true := by
  rintro ⟨tlb, t, root, pageNo, id, live, tables⟩
  simp only [P_vcx]
  cases hf : F_short tlb
  · rfl
  cases hg : F_short [t]
  · rfl
  by_cases h1 : ((live.length : Nat) : Int) > 60
  · rw [decide_eq_true h1]; rfl
  by_cases h2 : ((tables.length : Nat) : Int) > 60
  · rw [decide_eq_true h2, decide_eq_false h1]; rfl
  rw [decide_eq_false h1, decide_eq_false h2]
  have g1 := (short_ok hg).2 t (List.mem_singleton.2 rfl)
  have g0 : okLn 20 tlb := ⟨(short_ok hf).1, fun e he => by have := (short_ok hf).2 e he; omega⟩
  have k1 : okL tlb = true := okLn_okL (by omega) g0
  have k2 : len40n live = true := decide_eq_true (by omega)
  have k3 : len40n tables = true := decide_eq_true (by omega)
  have k4 : trPre t = true := Bool.and_eq_true_iff.2 ⟨decide_eq_true (by omega), decide_eq_true (by omega)⟩
  have k5 : decide (tables.length * 8 ≤ 140737488355328) = true := decide_eq_true (by omega)
  have k6 : okL (filS (tlb, t)) = true := okLn_okL (by omega) (okLn_fil g0 g1)
  have k7 : okL (dropS (tlb, id)) = true := okLn_okL (by omega) (okLn_filter g0 _)
  have k8 : okL (fluS (tlb, live, tables)) = true := okLn_okL (by omega) (okLn_filter g0 _)
  have k9 : strPre ((lokS (tlb, root, pageNo)).1, (lokS (tlb, root, pageNo)).1) = true := by
    rcases lok_mem (tlb, root, pageNo) with e | e
    · rw [e]; rfl
    · obtain ⟨q1, q2⟩ := g0.2 _ e
      exact Bool.and_eq_true_iff.2 ⟨decide_eq_true (by show List.length _ ≤ _; simp only; omega), decide_eq_true (by show List.length _ ≤ _; simp only; omega)⟩
  simp only [fluPre, filPre, k1, k2, k3, k4, k5, k6, k7, k8, k9]
  simp
theorem vcx_true : ∀ a : List STr × STr × Int × Int × SId × List SId × List Int, ∃ f, M_vcx f a = some true := fun a => by
  have h := vcx_auto a (vcx_P a)
  have e : F_vcx a = true := by obtain ⟨tlb, t, root, pageNo, id, live, tables⟩ := a; simp [F_vcx]
  rw [e] at h; exact h
end Go.AL
