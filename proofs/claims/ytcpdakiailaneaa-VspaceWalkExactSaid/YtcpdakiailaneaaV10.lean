/-
  Layer 16: walks, Sync and caches: models. By an AI agent.
-/
import Derived.Test.YtcpdakiailaneaaV5
import Derived.Test.YtcpdakiailaneaaVe
namespace Go.AL
open Go.Proofs
set_option linter.unusedVariables false
set_option linter.unusedSimpArgs false
theorem ctr_P : ∀ t : STr, (fun t : STr => len40n t.2.2.2.2.1 && len40n t.2.2.2.2.2) t = true → P_ctr t = true := fun t h => h
theorem ctr_F : ∀ t : STr, (fun t : STr => len40n t.2.2.2.2.1 && len40n t.2.2.2.2.2) t = true → F_ctr t = (fun t => t) t := fun t h => rfl
theorem ctr_run : ∀ a, (fun t : STr => len40n t.2.2.2.2.1 && len40n t.2.2.2.2.2 : STr → Bool) a = true → ∃ f, M_ctr f a = some ((fun t => t : STr → STr) a) := fun a h => by have h1 := ctr_auto a (ctr_P a h); rw [ctr_F a h] at h1; exact h1
noncomputable def E_ctr : Ent := ⟨70, [.g tSTr], [.g tSTr], fun a => (fun t : STr => len40n t.2.2.2.2.1 && len40n t.2.2.2.2.2 : STr → Bool) a, fun a => (fun t => t : STr → STr) a⟩
theorem E_ctr_ok : E_ctr.Ok Try.prog := fun a hp vs hv => (ctr_run a hp).elim fun f h => fnX_ok (C := C_ctr) (Lt := Lt_ctr) (fn := Try.f70) (rs := [.cell 2 45]) [.g tSTr] [.g tSTr] mixed es_ctr Try.func70 rfl rfl rfl (by kernel_rfl) (by kernel_rfl) f h vs hv
instance decSTr : DecidableEq STr := @instDecidableEqProd _ _ (inferInstanceAs (DecidableEq Int)) (@instDecidableEqProd _ _ (inferInstanceAs (DecidableEq Int)) (@instDecidableEqProd _ _ (inferInstanceAs (DecidableEq Int)) (@instDecidableEqProd _ _ (inferInstanceAs (DecidableEq Int)) (@instDecidableEqProd _ _ (inferInstanceAs (DecidableEq (List (Int × Int × Int)))) (inferInstanceAs (DecidableEq (List Int)))))))
def strPre (a : STr × STr) : Bool := len40n a.1.2.2.2.2.1 && len40n a.1.2.2.2.2.2
theorem str_both : ∀ a : STr × STr, strPre a = true → P_str a = true ∧ F_str a = decide (a.1 = a.2) := by
  rintro ⟨⟨a1, a2, a3, a4, a5, a6⟩, ⟨b1, b2, b3, b4, b5, b6⟩⟩ h
  obtain ⟨h1, h2⟩ := Bool.and_eq_true_iff.1 h
  have h1 : len40n a5 = true := h1
  have h2 : len40n a6 = true := h2
  simp only [P_str, F_str, h1, h2, beqI]
  by_cases e : a1 = b1 ∧ a2 = b2 ∧ a3 = b3 ∧ a4 = b4 ∧ a5 = b5 ∧ a6 = b6
  · obtain ⟨rfl, rfl, rfl, rfl, rfl, rfl⟩ := e
    simp
  · have e2 : ¬ ((a1, a2, a3, a4, a5, a6) : STr) = (b1, b2, b3, b4, b5, b6) := fun e' => e (by
      simp only [Prod.mk.injEq] at e'
      exact e')
    rw [decide_eq_false e2]
    by_cases c1 : a1 = b1 <;> by_cases c2 : a2 = b2 <;> by_cases c3 : a3 = b3 <;> by_cases c4 : a4 = b4 <;> by_cases c5 : a5 = b5 <;> by_cases c6 : a6 = b6 <;> simp_all
theorem str_P : ∀ a : STr × STr, strPre a = true → P_str a = true := fun a h => (str_both a h).1
theorem str_F : ∀ a : STr × STr, strPre a = true → F_str a = (fun a => decide (a.1 = a.2)) a := fun a h => (str_both a h).2
theorem str_run : ∀ a, (strPre : STr × STr → Bool) a = true → ∃ f, M_str f a = some ((fun a => decide (a.1 = a.2) : STr × STr → Bool) a) := fun a h => by have h1 := str_auto a (str_P a h); rw [str_F a h] at h1; exact h1
noncomputable def E_str : Ent := ⟨39, [.g tSTr, .g tSTr], [.v (.bool)], fun a => (strPre : STr × STr → Bool) a, fun a => (fun a => decide (a.1 = a.2) : STr × STr → Bool) a⟩
theorem E_str_ok : E_str.Ok Try.prog := fun a hp vs hv => (str_run a hp).elim fun f h => fnX_ok (C := C_str) (Lt := Lt_str) (fn := Try.f39) (rs := [.tmp 4]) [.g tSTr, .g tSTr] [.v (.bool)] mixed es_str Try.func39 rfl rfl rfl (by kernel_rfl) (by kernel_rfl) f h vs hv
def taS (ts : List SPT) (b : Int) : SPT := ts.getD (ftS ts b).toNat (0, 0, 0, [])
def faS (ts : List SPT) (w addr lv b : Int) : Int := fmS (taS ts b).2.2.2 (ixS (w, lv, addr))
def maS (ts : List SPT) (w addr lv b : Int) : SMp := List.getD (taS ts b).2.2.2 (faS ts w addr lv b).toNat (0, 0, 0, 0, 0, 0)
section
variable {ρ : Type} {A B : Nat → Option ρ} {c p : Bool} {x : ρ}
theorem evx_chk (ha : Rns A p x) : Rns (fun f => bif c then A f else B f) (c && p) x := by
  cases c
  · intro h; cases h
  · exact ha
theorem evx_chk1 (ha : Rns A true x) : Rns (fun f => bif c then A f else B f) c x := by
  cases c
  · intro h; cases h
  · exact ha
theorem evx_chn (hb : Rns B p x) : Rns (fun f => bif c then A f else B f) (!c && p) x := by
  cases c
  · exact hb
  · intro h; cases h
theorem evx_chn1 (hb : Rns B true x) : Rns (fun f => bif c then A f else B f) (!c) x := by
  cases c
  · exact hb
  · intro h; cases h
end
noncomputable def C_wlk : Cfg := ⟨Try.prog, [E_vval, E_geom, E_vcap, E_pva, E_find, E_pix, E_mapg], pmT [(14, ([(0, []), (1, []), (2, []), (3, []), (4, []), (5, []), (6, []), (7, []), (8, []), (9, []), (10, []), (11, []), (12, []), (13, []), (14, []), (15, []), (16, []), (17, []), (18, []), (19, []), (20, [])], [(72, 92)])), (16, ([(0, []), (1, []), (2, []), (3, []), (4, []), (5, []), (6, []), (7, []), (8, []), (9, []), (10, []), (11, []), (12, []), (13, []), (14, [])], [(16, 17), (94, 106)])), (22, ([(0, []), (1, []), (4, []), (2, [5]), (3, [5]), (5, []), (6, []), (7, [])], [(131, 136)]))], 140, [], []⟩
theorem es_wlk : EsOk Try.prog [E_vval, E_geom, E_vcap, E_pva, E_find, E_pix, E_mapg] [] := es_cons E_vval_ok (es_cons E_geom_ok (es_cons E_vcap_ok (es_cons E_pva_ok (es_cons E_find_ok (es_cons E_pix_ok (es_cons E_mapg_ok (es_nil)))))))
def Lt_wlk : Nat → LD := ldT [(0, ⟨[], [(0, 0)]⟩)]
noncomputable def M_wlk (f : Nat) (a : (List (SPT)) × SCp × Int) : Option (STr × Int) := (runX (C_wlk) Lt_wlk (Kret Try.prog [.cell 6 45, .tmp 7] [.g tSTr, .v (.int .i64)]) f [.code (bodyOf Try.f21)] (initX [.rd tSPT, .g tSCp, .c (.int .i64)] a) : Option (ResT [.g tSTr, .v (.int .i64)]))
theorem M_wlk_eq (f : Nat) (ts : List (SPT)) (root : SCp) (addr : Int) : M_wlk (f + 1) (ts, root, addr) =
    bif okM ts then bif !tabsB ts then some ((0, 0, 0, 0, [], []), 1) else bif !vcapB root then some ((0, 0, 0, 0, [], []), 5) else bif root.1 != 3 then some ((0, 0, 0, 0, [], []), 5) else bif root.2.2.2.2.2.1 != IntKind.i64.wrap ((geoS root.2.2.2.2.1).1 - 1) then some ((0, 0, 0, 0, [], []), 5) else bif !vaS (root.2.2.2.2.1, addr) then some ((0, 0, 0, 0, [], []), 6) else bif decide (root.2.2.2.2.2.1 ≥ 0) then bif len40n ts then bif !decide (ftS ts root.2.1 ≥ 0) then some ((0, 0, 0, 0, [], []), 13) else bif decide (0 ≤ ftS ts root.2.1) && decide (ftS ts root.2.1 < (↑ts.length : Int)) then bif (taS ts root.2.1).2.1 != root.2.2.2.2.1 then some ((0, 0, 0, 0, [], []), 13) else bif decide (0 ≤ ftS ts root.2.1) && decide (ftS ts root.2.1 < (↑ts.length : Int)) then bif (taS ts root.2.1).2.2.1 != root.2.2.2.2.2.1 then some ((0, 0, 0, 0, [], []), 13) else bif decide (0 ≤ ftS ts root.2.1) && decide (ftS ts root.2.1 < (↑ts.length : Int)) then bif len40n (taS ts root.2.1).2.2.2 then bif !decide (faS ts root.2.2.2.2.1 addr root.2.2.2.2.2.1 root.2.1 ≥ 0) then some ((0, 0, 0, 0, [], []), 13) else bif decide (0 ≤ ftS ts root.2.1) && decide (ftS ts root.2.1 < (↑ts.length : Int)) then bif decide (0 ≤ faS ts root.2.2.2.2.1 addr root.2.2.2.2.2.1 root.2.1) && decide (faS ts root.2.2.2.2.1 addr root.2.2.2.2.2.1 root.2.1 < (↑(List.length (taS ts root.2.1).2.2.2) : Int)) then bif decide (IntKind.i64.wrap (root.2.2.2.2.2.1 - 1) ≥ 0) then bif len40n ts then bif !decide (ftS ts (maS ts root.2.2.2.2.1 addr root.2.2.2.2.2.1 root.2.1).2.1 ≥ 0) then some ((0, 0, 0, 0, [], []), 13) else bif decide (0 ≤ ftS ts (maS ts root.2.2.2.2.1 addr root.2.2.2.2.2.1 root.2.1).2.1) && decide (ftS ts (maS ts root.2.2.2.2.1 addr root.2.2.2.2.2.1 root.2.1).2.1 < (↑ts.length : Int)) then bif (taS ts (maS ts root.2.2.2.2.1 addr root.2.2.2.2.2.1 root.2.1).2.1).2.1 != root.2.2.2.2.1 then some ((0, 0, 0, 0, [], []), 13) else bif decide (0 ≤ ftS ts (maS ts root.2.2.2.2.1 addr root.2.2.2.2.2.1 root.2.1).2.1) && decide (ftS ts (maS ts root.2.2.2.2.1 addr root.2.2.2.2.2.1 root.2.1).2.1 < (↑ts.length : Int)) then bif (taS ts (maS ts root.2.2.2.2.1 addr root.2.2.2.2.2.1 root.2.1).2.1).2.2.1 != IntKind.i64.wrap (root.2.2.2.2.2.1 - 1) then some ((0, 0, 0, 0, [], []), 13) else bif decide (0 ≤ ftS ts (maS ts root.2.2.2.2.1 addr root.2.2.2.2.2.1 root.2.1).2.1) && decide (ftS ts (maS ts root.2.2.2.2.1 addr root.2.2.2.2.2.1 root.2.1).2.1 < (↑ts.length : Int)) then bif len40n (taS ts (maS ts root.2.2.2.2.1 addr root.2.2.2.2.2.1 root.2.1).2.1).2.2.2 then bif !decide (faS ts root.2.2.2.2.1 addr (IntKind.i64.wrap (root.2.2.2.2.2.1 - 1)) (maS ts root.2.2.2.2.1 addr root.2.2.2.2.2.1 root.2.1).2.1 ≥ 0) then some ((0, 0, 0, 0, [], []), 13) else bif decide (0 ≤ ftS ts (maS ts root.2.2.2.2.1 addr root.2.2.2.2.2.1 root.2.1).2.1) && decide (ftS ts (maS ts root.2.2.2.2.1 addr root.2.2.2.2.2.1 root.2.1).2.1 < (↑ts.length : Int)) then bif decide (0 ≤ faS ts root.2.2.2.2.1 addr (IntKind.i64.wrap (root.2.2.2.2.2.1 - 1)) (maS ts root.2.2.2.2.1 addr root.2.2.2.2.2.1 root.2.1).2.1) && decide (faS ts root.2.2.2.2.1 addr (IntKind.i64.wrap (root.2.2.2.2.2.1 - 1)) (maS ts root.2.2.2.2.1 addr root.2.2.2.2.2.1 root.2.1).2.1 < (↑(List.length (taS ts (maS ts root.2.2.2.2.1 addr root.2.2.2.2.2.1 root.2.1).2.1).2.2.2) : Int)) then bif decide (IntKind.i64.wrap (IntKind.i64.wrap (root.2.2.2.2.2.1 - 1) - 1) ≥ 0) then bif len40n ts then bif !decide (ftS ts (maS ts root.2.2.2.2.1 addr (IntKind.i64.wrap (root.2.2.2.2.2.1 - 1)) (maS ts root.2.2.2.2.1 addr root.2.2.2.2.2.1 root.2.1).2.1).2.1 ≥ 0) then some ((0, 0, 0, 0, [], []), 13) else bif decide (0 ≤ ftS ts (maS ts root.2.2.2.2.1 addr (IntKind.i64.wrap (root.2.2.2.2.2.1 - 1)) (maS ts root.2.2.2.2.1 addr root.2.2.2.2.2.1 root.2.1).2.1).2.1) && decide (ftS ts (maS ts root.2.2.2.2.1 addr (IntKind.i64.wrap (root.2.2.2.2.2.1 - 1)) (maS ts root.2.2.2.2.1 addr root.2.2.2.2.2.1 root.2.1).2.1).2.1 < (↑ts.length : Int)) then bif (taS ts (maS ts root.2.2.2.2.1 addr (IntKind.i64.wrap (root.2.2.2.2.2.1 - 1)) (maS ts root.2.2.2.2.1 addr root.2.2.2.2.2.1 root.2.1).2.1).2.1).2.1 != root.2.2.2.2.1 then some ((0, 0, 0, 0, [], []), 13) else bif decide (0 ≤ ftS ts (maS ts root.2.2.2.2.1 addr (IntKind.i64.wrap (root.2.2.2.2.2.1 - 1)) (maS ts root.2.2.2.2.1 addr root.2.2.2.2.2.1 root.2.1).2.1).2.1) && decide (ftS ts (maS ts root.2.2.2.2.1 addr (IntKind.i64.wrap (root.2.2.2.2.2.1 - 1)) (maS ts root.2.2.2.2.1 addr root.2.2.2.2.2.1 root.2.1).2.1).2.1 < (↑ts.length : Int)) then bif (taS ts (maS ts root.2.2.2.2.1 addr (IntKind.i64.wrap (root.2.2.2.2.2.1 - 1)) (maS ts root.2.2.2.2.1 addr root.2.2.2.2.2.1 root.2.1).2.1).2.1).2.2.1 != IntKind.i64.wrap (IntKind.i64.wrap (root.2.2.2.2.2.1 - 1) - 1) then some ((0, 0, 0, 0, [], []), 13) else bif decide (0 ≤ ftS ts (maS ts root.2.2.2.2.1 addr (IntKind.i64.wrap (root.2.2.2.2.2.1 - 1)) (maS ts root.2.2.2.2.1 addr root.2.2.2.2.2.1 root.2.1).2.1).2.1) && decide (ftS ts (maS ts root.2.2.2.2.1 addr (IntKind.i64.wrap (root.2.2.2.2.2.1 - 1)) (maS ts root.2.2.2.2.1 addr root.2.2.2.2.2.1 root.2.1).2.1).2.1 < (↑ts.length : Int)) then bif len40n (taS ts (maS ts root.2.2.2.2.1 addr (IntKind.i64.wrap (root.2.2.2.2.2.1 - 1)) (maS ts root.2.2.2.2.1 addr root.2.2.2.2.2.1 root.2.1).2.1).2.1).2.2.2 then bif !decide (faS ts root.2.2.2.2.1 addr (IntKind.i64.wrap (IntKind.i64.wrap (root.2.2.2.2.2.1 - 1) - 1)) (maS ts root.2.2.2.2.1 addr (IntKind.i64.wrap (root.2.2.2.2.2.1 - 1)) (maS ts root.2.2.2.2.1 addr root.2.2.2.2.2.1 root.2.1).2.1).2.1 ≥ 0) then some ((0, 0, 0, 0, [], []), 13) else bif decide (0 ≤ ftS ts (maS ts root.2.2.2.2.1 addr (IntKind.i64.wrap (root.2.2.2.2.2.1 - 1)) (maS ts root.2.2.2.2.1 addr root.2.2.2.2.2.1 root.2.1).2.1).2.1) && decide (ftS ts (maS ts root.2.2.2.2.1 addr (IntKind.i64.wrap (root.2.2.2.2.2.1 - 1)) (maS ts root.2.2.2.2.1 addr root.2.2.2.2.2.1 root.2.1).2.1).2.1 < (↑ts.length : Int)) then bif decide (0 ≤ faS ts root.2.2.2.2.1 addr (IntKind.i64.wrap (IntKind.i64.wrap (root.2.2.2.2.2.1 - 1) - 1)) (maS ts root.2.2.2.2.1 addr (IntKind.i64.wrap (root.2.2.2.2.2.1 - 1)) (maS ts root.2.2.2.2.1 addr root.2.2.2.2.2.1 root.2.1).2.1).2.1) && decide (faS ts root.2.2.2.2.1 addr (IntKind.i64.wrap (IntKind.i64.wrap (root.2.2.2.2.2.1 - 1) - 1)) (maS ts root.2.2.2.2.1 addr (IntKind.i64.wrap (root.2.2.2.2.2.1 - 1)) (maS ts root.2.2.2.2.1 addr root.2.2.2.2.2.1 root.2.1).2.1).2.1 < (↑(List.length (taS ts (maS ts root.2.2.2.2.1 addr (IntKind.i64.wrap (root.2.2.2.2.2.1 - 1)) (maS ts root.2.2.2.2.1 addr root.2.2.2.2.2.1 root.2.1).2.1).2.1).2.2.2) : Int)) then bif decide (IntKind.i64.wrap (IntKind.i64.wrap (IntKind.i64.wrap (root.2.2.2.2.2.1 - 1) - 1) - 1) ≥ 0) then bif len40n ts then bif !decide (ftS ts (maS ts root.2.2.2.2.1 addr (IntKind.i64.wrap (IntKind.i64.wrap (root.2.2.2.2.2.1 - 1) - 1)) (maS ts root.2.2.2.2.1 addr (IntKind.i64.wrap (root.2.2.2.2.2.1 - 1)) (maS ts root.2.2.2.2.1 addr root.2.2.2.2.2.1 root.2.1).2.1).2.1).2.1 ≥ 0) then some ((0, 0, 0, 0, [], []), 13) else bif decide (0 ≤ ftS ts (maS ts root.2.2.2.2.1 addr (IntKind.i64.wrap (IntKind.i64.wrap (root.2.2.2.2.2.1 - 1) - 1)) (maS ts root.2.2.2.2.1 addr (IntKind.i64.wrap (root.2.2.2.2.2.1 - 1)) (maS ts root.2.2.2.2.1 addr root.2.2.2.2.2.1 root.2.1).2.1).2.1).2.1) && decide (ftS ts (maS ts root.2.2.2.2.1 addr (IntKind.i64.wrap (IntKind.i64.wrap (root.2.2.2.2.2.1 - 1) - 1)) (maS ts root.2.2.2.2.1 addr (IntKind.i64.wrap (root.2.2.2.2.2.1 - 1)) (maS ts root.2.2.2.2.1 addr root.2.2.2.2.2.1 root.2.1).2.1).2.1).2.1 < (↑ts.length : Int)) then bif (taS ts (maS ts root.2.2.2.2.1 addr (IntKind.i64.wrap (IntKind.i64.wrap (root.2.2.2.2.2.1 - 1) - 1)) (maS ts root.2.2.2.2.1 addr (IntKind.i64.wrap (root.2.2.2.2.2.1 - 1)) (maS ts root.2.2.2.2.1 addr root.2.2.2.2.2.1 root.2.1).2.1).2.1).2.1).2.1 != root.2.2.2.2.1 then some ((0, 0, 0, 0, [], []), 13) else bif decide (0 ≤ ftS ts (maS ts root.2.2.2.2.1 addr (IntKind.i64.wrap (IntKind.i64.wrap (root.2.2.2.2.2.1 - 1) - 1)) (maS ts root.2.2.2.2.1 addr (IntKind.i64.wrap (root.2.2.2.2.2.1 - 1)) (maS ts root.2.2.2.2.1 addr root.2.2.2.2.2.1 root.2.1).2.1).2.1).2.1) && decide (ftS ts (maS ts root.2.2.2.2.1 addr (IntKind.i64.wrap (IntKind.i64.wrap (root.2.2.2.2.2.1 - 1) - 1)) (maS ts root.2.2.2.2.1 addr (IntKind.i64.wrap (root.2.2.2.2.2.1 - 1)) (maS ts root.2.2.2.2.1 addr root.2.2.2.2.2.1 root.2.1).2.1).2.1).2.1 < (↑ts.length : Int)) then bif (taS ts (maS ts root.2.2.2.2.1 addr (IntKind.i64.wrap (IntKind.i64.wrap (root.2.2.2.2.2.1 - 1) - 1)) (maS ts root.2.2.2.2.1 addr (IntKind.i64.wrap (root.2.2.2.2.2.1 - 1)) (maS ts root.2.2.2.2.1 addr root.2.2.2.2.2.1 root.2.1).2.1).2.1).2.1).2.2.1 != IntKind.i64.wrap (IntKind.i64.wrap (IntKind.i64.wrap (root.2.2.2.2.2.1 - 1) - 1) - 1) then some ((0, 0, 0, 0, [], []), 13) else bif decide (0 ≤ ftS ts (maS ts root.2.2.2.2.1 addr (IntKind.i64.wrap (IntKind.i64.wrap (root.2.2.2.2.2.1 - 1) - 1)) (maS ts root.2.2.2.2.1 addr (IntKind.i64.wrap (root.2.2.2.2.2.1 - 1)) (maS ts root.2.2.2.2.1 addr root.2.2.2.2.2.1 root.2.1).2.1).2.1).2.1) && decide (ftS ts (maS ts root.2.2.2.2.1 addr (IntKind.i64.wrap (IntKind.i64.wrap (root.2.2.2.2.2.1 - 1) - 1)) (maS ts root.2.2.2.2.1 addr (IntKind.i64.wrap (root.2.2.2.2.2.1 - 1)) (maS ts root.2.2.2.2.1 addr root.2.2.2.2.2.1 root.2.1).2.1).2.1).2.1 < (↑ts.length : Int)) then bif len40n (taS ts (maS ts root.2.2.2.2.1 addr (IntKind.i64.wrap (IntKind.i64.wrap (root.2.2.2.2.2.1 - 1) - 1)) (maS ts root.2.2.2.2.1 addr (IntKind.i64.wrap (root.2.2.2.2.2.1 - 1)) (maS ts root.2.2.2.2.1 addr root.2.2.2.2.2.1 root.2.1).2.1).2.1).2.1).2.2.2 then bif !decide (faS ts root.2.2.2.2.1 addr (IntKind.i64.wrap (IntKind.i64.wrap (IntKind.i64.wrap (root.2.2.2.2.2.1 - 1) - 1) - 1)) (maS ts root.2.2.2.2.1 addr (IntKind.i64.wrap (IntKind.i64.wrap (root.2.2.2.2.2.1 - 1) - 1)) (maS ts root.2.2.2.2.1 addr (IntKind.i64.wrap (root.2.2.2.2.2.1 - 1)) (maS ts root.2.2.2.2.1 addr root.2.2.2.2.2.1 root.2.1).2.1).2.1).2.1 ≥ 0) then some ((0, 0, 0, 0, [], []), 13) else bif decide (0 ≤ ftS ts (maS ts root.2.2.2.2.1 addr (IntKind.i64.wrap (IntKind.i64.wrap (root.2.2.2.2.2.1 - 1) - 1)) (maS ts root.2.2.2.2.1 addr (IntKind.i64.wrap (root.2.2.2.2.2.1 - 1)) (maS ts root.2.2.2.2.1 addr root.2.2.2.2.2.1 root.2.1).2.1).2.1).2.1) && decide (ftS ts (maS ts root.2.2.2.2.1 addr (IntKind.i64.wrap (IntKind.i64.wrap (root.2.2.2.2.2.1 - 1) - 1)) (maS ts root.2.2.2.2.1 addr (IntKind.i64.wrap (root.2.2.2.2.2.1 - 1)) (maS ts root.2.2.2.2.1 addr root.2.2.2.2.2.1 root.2.1).2.1).2.1).2.1 < (↑ts.length : Int)) then bif decide (0 ≤ faS ts root.2.2.2.2.1 addr (IntKind.i64.wrap (IntKind.i64.wrap (IntKind.i64.wrap (root.2.2.2.2.2.1 - 1) - 1) - 1)) (maS ts root.2.2.2.2.1 addr (IntKind.i64.wrap (IntKind.i64.wrap (root.2.2.2.2.2.1 - 1) - 1)) (maS ts root.2.2.2.2.1 addr (IntKind.i64.wrap (root.2.2.2.2.2.1 - 1)) (maS ts root.2.2.2.2.1 addr root.2.2.2.2.2.1 root.2.1).2.1).2.1).2.1) && decide (faS ts root.2.2.2.2.1 addr (IntKind.i64.wrap (IntKind.i64.wrap (IntKind.i64.wrap (root.2.2.2.2.2.1 - 1) - 1) - 1)) (maS ts root.2.2.2.2.1 addr (IntKind.i64.wrap (IntKind.i64.wrap (root.2.2.2.2.2.1 - 1) - 1)) (maS ts root.2.2.2.2.1 addr (IntKind.i64.wrap (root.2.2.2.2.2.1 - 1)) (maS ts root.2.2.2.2.1 addr root.2.2.2.2.2.1 root.2.1).2.1).2.1).2.1 < (↑(List.length (taS ts (maS ts root.2.2.2.2.1 addr (IntKind.i64.wrap (IntKind.i64.wrap (root.2.2.2.2.2.1 - 1) - 1)) (maS ts root.2.2.2.2.1 addr (IntKind.i64.wrap (root.2.2.2.2.2.1 - 1)) (maS ts root.2.2.2.2.1 addr root.2.2.2.2.2.1 root.2.1).2.1).2.1).2.1).2.2.2) : Int)) then none else none else none else none else none else none else none else none else some ((root.2.1, addr.fdiv (2 ^ min (Int.toNat 12) IntKind.i64.bits), (maS ts root.2.2.2.2.1 addr (IntKind.i64.wrap (IntKind.i64.wrap (root.2.2.2.2.2.1 - 1) - 1)) (maS ts root.2.2.2.2.1 addr (IntKind.i64.wrap (root.2.2.2.2.2.1 - 1)) (maS ts root.2.2.2.2.1 addr root.2.2.2.2.2.1 root.2.1).2.1).2.1).2.1, (maS ts root.2.2.2.2.1 addr (IntKind.i64.wrap (IntKind.i64.wrap (root.2.2.2.2.2.1 - 1) - 1)) (maS ts root.2.2.2.2.1 addr (IntKind.i64.wrap (root.2.2.2.2.2.1 - 1)) (maS ts root.2.2.2.2.1 addr root.2.2.2.2.2.1 root.2.1).2.1).2.1).2.2.1, [(maS ts root.2.2.2.2.1 addr root.2.2.2.2.2.1 root.2.1).2.2.2] ++ [(maS ts root.2.2.2.2.1 addr (IntKind.i64.wrap (root.2.2.2.2.2.1 - 1)) (maS ts root.2.2.2.2.1 addr root.2.2.2.2.2.1 root.2.1).2.1).2.2.2] ++ [(maS ts root.2.2.2.2.1 addr (IntKind.i64.wrap (IntKind.i64.wrap (root.2.2.2.2.2.1 - 1) - 1)) (maS ts root.2.2.2.2.1 addr (IntKind.i64.wrap (root.2.2.2.2.2.1 - 1)) (maS ts root.2.2.2.2.1 addr root.2.2.2.2.2.1 root.2.1).2.1).2.1).2.2.2], [root.2.1] ++ [(maS ts root.2.2.2.2.1 addr root.2.2.2.2.2.1 root.2.1).2.1] ++ [(maS ts root.2.2.2.2.1 addr (IntKind.i64.wrap (root.2.2.2.2.2.1 - 1)) (maS ts root.2.2.2.2.1 addr root.2.2.2.2.2.1 root.2.1).2.1).2.1]), 0) else none else none else none else none else none else none else none else some ((root.2.1, addr.fdiv (2 ^ min (Int.toNat 12) IntKind.i64.bits), (maS ts root.2.2.2.2.1 addr (IntKind.i64.wrap (root.2.2.2.2.2.1 - 1)) (maS ts root.2.2.2.2.1 addr root.2.2.2.2.2.1 root.2.1).2.1).2.1, (maS ts root.2.2.2.2.1 addr (IntKind.i64.wrap (root.2.2.2.2.2.1 - 1)) (maS ts root.2.2.2.2.1 addr root.2.2.2.2.2.1 root.2.1).2.1).2.2.1, [(maS ts root.2.2.2.2.1 addr root.2.2.2.2.2.1 root.2.1).2.2.2] ++ [(maS ts root.2.2.2.2.1 addr (IntKind.i64.wrap (root.2.2.2.2.2.1 - 1)) (maS ts root.2.2.2.2.1 addr root.2.2.2.2.2.1 root.2.1).2.1).2.2.2], [root.2.1] ++ [(maS ts root.2.2.2.2.1 addr root.2.2.2.2.2.1 root.2.1).2.1]), 0) else none else none else none else none else none else none else none else some ((root.2.1, addr.fdiv (2 ^ min (Int.toNat 12) IntKind.i64.bits), (maS ts root.2.2.2.2.1 addr root.2.2.2.2.2.1 root.2.1).2.1, (maS ts root.2.2.2.2.1 addr root.2.2.2.2.2.1 root.2.1).2.2.1, [(maS ts root.2.2.2.2.1 addr root.2.2.2.2.2.1 root.2.1).2.2.2], [root.2.1]), 0) else none else none else none else none else none else none else none else some ((root.2.1, addr.fdiv (2 ^ min (Int.toNat 12) IntKind.i64.bits), 0, 0, [], []), 0) else none := by kernel_rfl
noncomputable def F_wlk : ((List (SPT)) × SCp × Int) → STr × Int
  | (ts, root, addr) => bif !tabsB ts then ((0, 0, 0, 0, [], []), 1) else bif !vcapB root then ((0, 0, 0, 0, [], []), 5) else bif root.1 != 3 then ((0, 0, 0, 0, [], []), 5) else bif root.2.2.2.2.2.1 != IntKind.i64.wrap ((geoS root.2.2.2.2.1).1 - 1) then ((0, 0, 0, 0, [], []), 5) else bif !vaS (root.2.2.2.2.1, addr) then ((0, 0, 0, 0, [], []), 6) else bif decide (root.2.2.2.2.2.1 ≥ 0) then bif !decide (ftS ts root.2.1 ≥ 0) then ((0, 0, 0, 0, [], []), 13) else bif (taS ts root.2.1).2.1 != root.2.2.2.2.1 then ((0, 0, 0, 0, [], []), 13) else bif (taS ts root.2.1).2.2.1 != root.2.2.2.2.2.1 then ((0, 0, 0, 0, [], []), 13) else bif !decide (faS ts root.2.2.2.2.1 addr root.2.2.2.2.2.1 root.2.1 ≥ 0) then ((0, 0, 0, 0, [], []), 13) else bif decide (IntKind.i64.wrap (root.2.2.2.2.2.1 - 1) ≥ 0) then bif !decide (ftS ts (maS ts root.2.2.2.2.1 addr root.2.2.2.2.2.1 root.2.1).2.1 ≥ 0) then ((0, 0, 0, 0, [], []), 13) else bif (taS ts (maS ts root.2.2.2.2.1 addr root.2.2.2.2.2.1 root.2.1).2.1).2.1 != root.2.2.2.2.1 then ((0, 0, 0, 0, [], []), 13) else bif (taS ts (maS ts root.2.2.2.2.1 addr root.2.2.2.2.2.1 root.2.1).2.1).2.2.1 != IntKind.i64.wrap (root.2.2.2.2.2.1 - 1) then ((0, 0, 0, 0, [], []), 13) else bif !decide (faS ts root.2.2.2.2.1 addr (IntKind.i64.wrap (root.2.2.2.2.2.1 - 1)) (maS ts root.2.2.2.2.1 addr root.2.2.2.2.2.1 root.2.1).2.1 ≥ 0) then ((0, 0, 0, 0, [], []), 13) else bif decide (IntKind.i64.wrap (IntKind.i64.wrap (root.2.2.2.2.2.1 - 1) - 1) ≥ 0) then bif !decide (ftS ts (maS ts root.2.2.2.2.1 addr (IntKind.i64.wrap (root.2.2.2.2.2.1 - 1)) (maS ts root.2.2.2.2.1 addr root.2.2.2.2.2.1 root.2.1).2.1).2.1 ≥ 0) then ((0, 0, 0, 0, [], []), 13) else bif (taS ts (maS ts root.2.2.2.2.1 addr (IntKind.i64.wrap (root.2.2.2.2.2.1 - 1)) (maS ts root.2.2.2.2.1 addr root.2.2.2.2.2.1 root.2.1).2.1).2.1).2.1 != root.2.2.2.2.1 then ((0, 0, 0, 0, [], []), 13) else bif (taS ts (maS ts root.2.2.2.2.1 addr (IntKind.i64.wrap (root.2.2.2.2.2.1 - 1)) (maS ts root.2.2.2.2.1 addr root.2.2.2.2.2.1 root.2.1).2.1).2.1).2.2.1 != IntKind.i64.wrap (IntKind.i64.wrap (root.2.2.2.2.2.1 - 1) - 1) then ((0, 0, 0, 0, [], []), 13) else bif !decide (faS ts root.2.2.2.2.1 addr (IntKind.i64.wrap (IntKind.i64.wrap (root.2.2.2.2.2.1 - 1) - 1)) (maS ts root.2.2.2.2.1 addr (IntKind.i64.wrap (root.2.2.2.2.2.1 - 1)) (maS ts root.2.2.2.2.1 addr root.2.2.2.2.2.1 root.2.1).2.1).2.1 ≥ 0) then ((0, 0, 0, 0, [], []), 13) else bif decide (IntKind.i64.wrap (IntKind.i64.wrap (IntKind.i64.wrap (root.2.2.2.2.2.1 - 1) - 1) - 1) ≥ 0) then bif !decide (ftS ts (maS ts root.2.2.2.2.1 addr (IntKind.i64.wrap (IntKind.i64.wrap (root.2.2.2.2.2.1 - 1) - 1)) (maS ts root.2.2.2.2.1 addr (IntKind.i64.wrap (root.2.2.2.2.2.1 - 1)) (maS ts root.2.2.2.2.1 addr root.2.2.2.2.2.1 root.2.1).2.1).2.1).2.1 ≥ 0) then ((0, 0, 0, 0, [], []), 13) else bif (taS ts (maS ts root.2.2.2.2.1 addr (IntKind.i64.wrap (IntKind.i64.wrap (root.2.2.2.2.2.1 - 1) - 1)) (maS ts root.2.2.2.2.1 addr (IntKind.i64.wrap (root.2.2.2.2.2.1 - 1)) (maS ts root.2.2.2.2.1 addr root.2.2.2.2.2.1 root.2.1).2.1).2.1).2.1).2.1 != root.2.2.2.2.1 then ((0, 0, 0, 0, [], []), 13) else bif (taS ts (maS ts root.2.2.2.2.1 addr (IntKind.i64.wrap (IntKind.i64.wrap (root.2.2.2.2.2.1 - 1) - 1)) (maS ts root.2.2.2.2.1 addr (IntKind.i64.wrap (root.2.2.2.2.2.1 - 1)) (maS ts root.2.2.2.2.1 addr root.2.2.2.2.2.1 root.2.1).2.1).2.1).2.1).2.2.1 != IntKind.i64.wrap (IntKind.i64.wrap (IntKind.i64.wrap (root.2.2.2.2.2.1 - 1) - 1) - 1) then ((0, 0, 0, 0, [], []), 13) else ((0, 0, 0, 0, [], []), 13) else ((root.2.1, addr.fdiv (2 ^ min (Int.toNat 12) IntKind.i64.bits), (maS ts root.2.2.2.2.1 addr (IntKind.i64.wrap (IntKind.i64.wrap (root.2.2.2.2.2.1 - 1) - 1)) (maS ts root.2.2.2.2.1 addr (IntKind.i64.wrap (root.2.2.2.2.2.1 - 1)) (maS ts root.2.2.2.2.1 addr root.2.2.2.2.2.1 root.2.1).2.1).2.1).2.1, (maS ts root.2.2.2.2.1 addr (IntKind.i64.wrap (IntKind.i64.wrap (root.2.2.2.2.2.1 - 1) - 1)) (maS ts root.2.2.2.2.1 addr (IntKind.i64.wrap (root.2.2.2.2.2.1 - 1)) (maS ts root.2.2.2.2.1 addr root.2.2.2.2.2.1 root.2.1).2.1).2.1).2.2.1, [(maS ts root.2.2.2.2.1 addr root.2.2.2.2.2.1 root.2.1).2.2.2] ++ [(maS ts root.2.2.2.2.1 addr (IntKind.i64.wrap (root.2.2.2.2.2.1 - 1)) (maS ts root.2.2.2.2.1 addr root.2.2.2.2.2.1 root.2.1).2.1).2.2.2] ++ [(maS ts root.2.2.2.2.1 addr (IntKind.i64.wrap (IntKind.i64.wrap (root.2.2.2.2.2.1 - 1) - 1)) (maS ts root.2.2.2.2.1 addr (IntKind.i64.wrap (root.2.2.2.2.2.1 - 1)) (maS ts root.2.2.2.2.1 addr root.2.2.2.2.2.1 root.2.1).2.1).2.1).2.2.2], [root.2.1] ++ [(maS ts root.2.2.2.2.1 addr root.2.2.2.2.2.1 root.2.1).2.1] ++ [(maS ts root.2.2.2.2.1 addr (IntKind.i64.wrap (root.2.2.2.2.2.1 - 1)) (maS ts root.2.2.2.2.1 addr root.2.2.2.2.2.1 root.2.1).2.1).2.1]), 0) else ((root.2.1, addr.fdiv (2 ^ min (Int.toNat 12) IntKind.i64.bits), (maS ts root.2.2.2.2.1 addr (IntKind.i64.wrap (root.2.2.2.2.2.1 - 1)) (maS ts root.2.2.2.2.1 addr root.2.2.2.2.2.1 root.2.1).2.1).2.1, (maS ts root.2.2.2.2.1 addr (IntKind.i64.wrap (root.2.2.2.2.2.1 - 1)) (maS ts root.2.2.2.2.1 addr root.2.2.2.2.2.1 root.2.1).2.1).2.2.1, [(maS ts root.2.2.2.2.1 addr root.2.2.2.2.2.1 root.2.1).2.2.2] ++ [(maS ts root.2.2.2.2.1 addr (IntKind.i64.wrap (root.2.2.2.2.2.1 - 1)) (maS ts root.2.2.2.2.1 addr root.2.2.2.2.2.1 root.2.1).2.1).2.2.2], [root.2.1] ++ [(maS ts root.2.2.2.2.1 addr root.2.2.2.2.2.1 root.2.1).2.1]), 0) else ((root.2.1, addr.fdiv (2 ^ min (Int.toNat 12) IntKind.i64.bits), (maS ts root.2.2.2.2.1 addr root.2.2.2.2.2.1 root.2.1).2.1, (maS ts root.2.2.2.2.1 addr root.2.2.2.2.2.1 root.2.1).2.2.1, [(maS ts root.2.2.2.2.1 addr root.2.2.2.2.2.1 root.2.1).2.2.2], [root.2.1]), 0) else ((root.2.1, addr.fdiv (2 ^ min (Int.toNat 12) IntKind.i64.bits), 0, 0, [], []), 0)
noncomputable def P_wlk : ((List (SPT)) × SCp × Int) → Bool
  | (ts, root, addr) => okM ts && bif !tabsB ts then true else bif !vcapB root then true else bif root.1 != 3 then true else bif root.2.2.2.2.2.1 != IntKind.i64.wrap ((geoS root.2.2.2.2.1).1 - 1) then true else bif !vaS (root.2.2.2.2.1, addr) then true else bif decide (root.2.2.2.2.2.1 ≥ 0) then len40n ts && bif !decide (ftS ts root.2.1 ≥ 0) then true else decide (0 ≤ ftS ts root.2.1) && decide (ftS ts root.2.1 < (↑ts.length : Int)) && bif (taS ts root.2.1).2.1 != root.2.2.2.2.1 then true else decide (0 ≤ ftS ts root.2.1) && decide (ftS ts root.2.1 < (↑ts.length : Int)) && bif (taS ts root.2.1).2.2.1 != root.2.2.2.2.2.1 then true else decide (0 ≤ ftS ts root.2.1) && decide (ftS ts root.2.1 < (↑ts.length : Int)) && (len40n (taS ts root.2.1).2.2.2 && bif !decide (faS ts root.2.2.2.2.1 addr root.2.2.2.2.2.1 root.2.1 ≥ 0) then true else decide (0 ≤ ftS ts root.2.1) && decide (ftS ts root.2.1 < (↑ts.length : Int)) && (decide (0 ≤ faS ts root.2.2.2.2.1 addr root.2.2.2.2.2.1 root.2.1) && decide (faS ts root.2.2.2.2.1 addr root.2.2.2.2.2.1 root.2.1 < (↑(List.length (taS ts root.2.1).2.2.2) : Int)) && bif decide (IntKind.i64.wrap (root.2.2.2.2.2.1 - 1) ≥ 0) then len40n ts && bif !decide (ftS ts (maS ts root.2.2.2.2.1 addr root.2.2.2.2.2.1 root.2.1).2.1 ≥ 0) then true else decide (0 ≤ ftS ts (maS ts root.2.2.2.2.1 addr root.2.2.2.2.2.1 root.2.1).2.1) && decide (ftS ts (maS ts root.2.2.2.2.1 addr root.2.2.2.2.2.1 root.2.1).2.1 < (↑ts.length : Int)) && bif (taS ts (maS ts root.2.2.2.2.1 addr root.2.2.2.2.2.1 root.2.1).2.1).2.1 != root.2.2.2.2.1 then true else decide (0 ≤ ftS ts (maS ts root.2.2.2.2.1 addr root.2.2.2.2.2.1 root.2.1).2.1) && decide (ftS ts (maS ts root.2.2.2.2.1 addr root.2.2.2.2.2.1 root.2.1).2.1 < (↑ts.length : Int)) && bif (taS ts (maS ts root.2.2.2.2.1 addr root.2.2.2.2.2.1 root.2.1).2.1).2.2.1 != IntKind.i64.wrap (root.2.2.2.2.2.1 - 1) then true else decide (0 ≤ ftS ts (maS ts root.2.2.2.2.1 addr root.2.2.2.2.2.1 root.2.1).2.1) && decide (ftS ts (maS ts root.2.2.2.2.1 addr root.2.2.2.2.2.1 root.2.1).2.1 < (↑ts.length : Int)) && (len40n (taS ts (maS ts root.2.2.2.2.1 addr root.2.2.2.2.2.1 root.2.1).2.1).2.2.2 && bif !decide (faS ts root.2.2.2.2.1 addr (IntKind.i64.wrap (root.2.2.2.2.2.1 - 1)) (maS ts root.2.2.2.2.1 addr root.2.2.2.2.2.1 root.2.1).2.1 ≥ 0) then true else decide (0 ≤ ftS ts (maS ts root.2.2.2.2.1 addr root.2.2.2.2.2.1 root.2.1).2.1) && decide (ftS ts (maS ts root.2.2.2.2.1 addr root.2.2.2.2.2.1 root.2.1).2.1 < (↑ts.length : Int)) && (decide (0 ≤ faS ts root.2.2.2.2.1 addr (IntKind.i64.wrap (root.2.2.2.2.2.1 - 1)) (maS ts root.2.2.2.2.1 addr root.2.2.2.2.2.1 root.2.1).2.1) && decide (faS ts root.2.2.2.2.1 addr (IntKind.i64.wrap (root.2.2.2.2.2.1 - 1)) (maS ts root.2.2.2.2.1 addr root.2.2.2.2.2.1 root.2.1).2.1 < (↑(List.length (taS ts (maS ts root.2.2.2.2.1 addr root.2.2.2.2.2.1 root.2.1).2.1).2.2.2) : Int)) && bif decide (IntKind.i64.wrap (IntKind.i64.wrap (root.2.2.2.2.2.1 - 1) - 1) ≥ 0) then len40n ts && bif !decide (ftS ts (maS ts root.2.2.2.2.1 addr (IntKind.i64.wrap (root.2.2.2.2.2.1 - 1)) (maS ts root.2.2.2.2.1 addr root.2.2.2.2.2.1 root.2.1).2.1).2.1 ≥ 0) then true else decide (0 ≤ ftS ts (maS ts root.2.2.2.2.1 addr (IntKind.i64.wrap (root.2.2.2.2.2.1 - 1)) (maS ts root.2.2.2.2.1 addr root.2.2.2.2.2.1 root.2.1).2.1).2.1) && decide (ftS ts (maS ts root.2.2.2.2.1 addr (IntKind.i64.wrap (root.2.2.2.2.2.1 - 1)) (maS ts root.2.2.2.2.1 addr root.2.2.2.2.2.1 root.2.1).2.1).2.1 < (↑ts.length : Int)) && bif (taS ts (maS ts root.2.2.2.2.1 addr (IntKind.i64.wrap (root.2.2.2.2.2.1 - 1)) (maS ts root.2.2.2.2.1 addr root.2.2.2.2.2.1 root.2.1).2.1).2.1).2.1 != root.2.2.2.2.1 then true else decide (0 ≤ ftS ts (maS ts root.2.2.2.2.1 addr (IntKind.i64.wrap (root.2.2.2.2.2.1 - 1)) (maS ts root.2.2.2.2.1 addr root.2.2.2.2.2.1 root.2.1).2.1).2.1) && decide (ftS ts (maS ts root.2.2.2.2.1 addr (IntKind.i64.wrap (root.2.2.2.2.2.1 - 1)) (maS ts root.2.2.2.2.1 addr root.2.2.2.2.2.1 root.2.1).2.1).2.1 < (↑ts.length : Int)) && bif (taS ts (maS ts root.2.2.2.2.1 addr (IntKind.i64.wrap (root.2.2.2.2.2.1 - 1)) (maS ts root.2.2.2.2.1 addr root.2.2.2.2.2.1 root.2.1).2.1).2.1).2.2.1 != IntKind.i64.wrap (IntKind.i64.wrap (root.2.2.2.2.2.1 - 1) - 1) then true else decide (0 ≤ ftS ts (maS ts root.2.2.2.2.1 addr (IntKind.i64.wrap (root.2.2.2.2.2.1 - 1)) (maS ts root.2.2.2.2.1 addr root.2.2.2.2.2.1 root.2.1).2.1).2.1) && decide (ftS ts (maS ts root.2.2.2.2.1 addr (IntKind.i64.wrap (root.2.2.2.2.2.1 - 1)) (maS ts root.2.2.2.2.1 addr root.2.2.2.2.2.1 root.2.1).2.1).2.1 < (↑ts.length : Int)) && (len40n (taS ts (maS ts root.2.2.2.2.1 addr (IntKind.i64.wrap (root.2.2.2.2.2.1 - 1)) (maS ts root.2.2.2.2.1 addr root.2.2.2.2.2.1 root.2.1).2.1).2.1).2.2.2 && bif !decide (faS ts root.2.2.2.2.1 addr (IntKind.i64.wrap (IntKind.i64.wrap (root.2.2.2.2.2.1 - 1) - 1)) (maS ts root.2.2.2.2.1 addr (IntKind.i64.wrap (root.2.2.2.2.2.1 - 1)) (maS ts root.2.2.2.2.1 addr root.2.2.2.2.2.1 root.2.1).2.1).2.1 ≥ 0) then true else decide (0 ≤ ftS ts (maS ts root.2.2.2.2.1 addr (IntKind.i64.wrap (root.2.2.2.2.2.1 - 1)) (maS ts root.2.2.2.2.1 addr root.2.2.2.2.2.1 root.2.1).2.1).2.1) && decide (ftS ts (maS ts root.2.2.2.2.1 addr (IntKind.i64.wrap (root.2.2.2.2.2.1 - 1)) (maS ts root.2.2.2.2.1 addr root.2.2.2.2.2.1 root.2.1).2.1).2.1 < (↑ts.length : Int)) && (decide (0 ≤ faS ts root.2.2.2.2.1 addr (IntKind.i64.wrap (IntKind.i64.wrap (root.2.2.2.2.2.1 - 1) - 1)) (maS ts root.2.2.2.2.1 addr (IntKind.i64.wrap (root.2.2.2.2.2.1 - 1)) (maS ts root.2.2.2.2.1 addr root.2.2.2.2.2.1 root.2.1).2.1).2.1) && decide (faS ts root.2.2.2.2.1 addr (IntKind.i64.wrap (IntKind.i64.wrap (root.2.2.2.2.2.1 - 1) - 1)) (maS ts root.2.2.2.2.1 addr (IntKind.i64.wrap (root.2.2.2.2.2.1 - 1)) (maS ts root.2.2.2.2.1 addr root.2.2.2.2.2.1 root.2.1).2.1).2.1 < (↑(List.length (taS ts (maS ts root.2.2.2.2.1 addr (IntKind.i64.wrap (root.2.2.2.2.2.1 - 1)) (maS ts root.2.2.2.2.1 addr root.2.2.2.2.2.1 root.2.1).2.1).2.1).2.2.2) : Int)) && bif decide (IntKind.i64.wrap (IntKind.i64.wrap (IntKind.i64.wrap (root.2.2.2.2.2.1 - 1) - 1) - 1) ≥ 0) then len40n ts && bif !decide (ftS ts (maS ts root.2.2.2.2.1 addr (IntKind.i64.wrap (IntKind.i64.wrap (root.2.2.2.2.2.1 - 1) - 1)) (maS ts root.2.2.2.2.1 addr (IntKind.i64.wrap (root.2.2.2.2.2.1 - 1)) (maS ts root.2.2.2.2.1 addr root.2.2.2.2.2.1 root.2.1).2.1).2.1).2.1 ≥ 0) then true else decide (0 ≤ ftS ts (maS ts root.2.2.2.2.1 addr (IntKind.i64.wrap (IntKind.i64.wrap (root.2.2.2.2.2.1 - 1) - 1)) (maS ts root.2.2.2.2.1 addr (IntKind.i64.wrap (root.2.2.2.2.2.1 - 1)) (maS ts root.2.2.2.2.1 addr root.2.2.2.2.2.1 root.2.1).2.1).2.1).2.1) && decide (ftS ts (maS ts root.2.2.2.2.1 addr (IntKind.i64.wrap (IntKind.i64.wrap (root.2.2.2.2.2.1 - 1) - 1)) (maS ts root.2.2.2.2.1 addr (IntKind.i64.wrap (root.2.2.2.2.2.1 - 1)) (maS ts root.2.2.2.2.1 addr root.2.2.2.2.2.1 root.2.1).2.1).2.1).2.1 < (↑ts.length : Int)) && bif (taS ts (maS ts root.2.2.2.2.1 addr (IntKind.i64.wrap (IntKind.i64.wrap (root.2.2.2.2.2.1 - 1) - 1)) (maS ts root.2.2.2.2.1 addr (IntKind.i64.wrap (root.2.2.2.2.2.1 - 1)) (maS ts root.2.2.2.2.1 addr root.2.2.2.2.2.1 root.2.1).2.1).2.1).2.1).2.1 != root.2.2.2.2.1 then true else decide (0 ≤ ftS ts (maS ts root.2.2.2.2.1 addr (IntKind.i64.wrap (IntKind.i64.wrap (root.2.2.2.2.2.1 - 1) - 1)) (maS ts root.2.2.2.2.1 addr (IntKind.i64.wrap (root.2.2.2.2.2.1 - 1)) (maS ts root.2.2.2.2.1 addr root.2.2.2.2.2.1 root.2.1).2.1).2.1).2.1) && decide (ftS ts (maS ts root.2.2.2.2.1 addr (IntKind.i64.wrap (IntKind.i64.wrap (root.2.2.2.2.2.1 - 1) - 1)) (maS ts root.2.2.2.2.1 addr (IntKind.i64.wrap (root.2.2.2.2.2.1 - 1)) (maS ts root.2.2.2.2.1 addr root.2.2.2.2.2.1 root.2.1).2.1).2.1).2.1 < (↑ts.length : Int)) && bif (taS ts (maS ts root.2.2.2.2.1 addr (IntKind.i64.wrap (IntKind.i64.wrap (root.2.2.2.2.2.1 - 1) - 1)) (maS ts root.2.2.2.2.1 addr (IntKind.i64.wrap (root.2.2.2.2.2.1 - 1)) (maS ts root.2.2.2.2.1 addr root.2.2.2.2.2.1 root.2.1).2.1).2.1).2.1).2.2.1 != IntKind.i64.wrap (IntKind.i64.wrap (IntKind.i64.wrap (root.2.2.2.2.2.1 - 1) - 1) - 1) then true else decide (0 ≤ ftS ts (maS ts root.2.2.2.2.1 addr (IntKind.i64.wrap (IntKind.i64.wrap (root.2.2.2.2.2.1 - 1) - 1)) (maS ts root.2.2.2.2.1 addr (IntKind.i64.wrap (root.2.2.2.2.2.1 - 1)) (maS ts root.2.2.2.2.1 addr root.2.2.2.2.2.1 root.2.1).2.1).2.1).2.1) && decide (ftS ts (maS ts root.2.2.2.2.1 addr (IntKind.i64.wrap (IntKind.i64.wrap (root.2.2.2.2.2.1 - 1) - 1)) (maS ts root.2.2.2.2.1 addr (IntKind.i64.wrap (root.2.2.2.2.2.1 - 1)) (maS ts root.2.2.2.2.1 addr root.2.2.2.2.2.1 root.2.1).2.1).2.1).2.1 < (↑ts.length : Int)) && (len40n (taS ts (maS ts root.2.2.2.2.1 addr (IntKind.i64.wrap (IntKind.i64.wrap (root.2.2.2.2.2.1 - 1) - 1)) (maS ts root.2.2.2.2.1 addr (IntKind.i64.wrap (root.2.2.2.2.2.1 - 1)) (maS ts root.2.2.2.2.1 addr root.2.2.2.2.2.1 root.2.1).2.1).2.1).2.1).2.2.2 && !decide (faS ts root.2.2.2.2.1 addr (IntKind.i64.wrap (IntKind.i64.wrap (IntKind.i64.wrap (root.2.2.2.2.2.1 - 1) - 1) - 1)) (maS ts root.2.2.2.2.1 addr (IntKind.i64.wrap (IntKind.i64.wrap (root.2.2.2.2.2.1 - 1) - 1)) (maS ts root.2.2.2.2.1 addr (IntKind.i64.wrap (root.2.2.2.2.2.1 - 1)) (maS ts root.2.2.2.2.1 addr root.2.2.2.2.2.1 root.2.1).2.1).2.1).2.1 ≥ 0)) else true)) else true)) else true)) else true
theorem wlk_auto : ∀ a : (List (SPT)) × SCp × Int, Rns (fun f => M_wlk f a) (P_wlk a) (F_wlk a)
  | (ts, root, addr) => ev_step (fun f => M_wlk_eq f _ _ _) (evx_chk (ev_bif ev_some (ev_bif ev_some (ev_bif ev_some (ev_bif ev_some (ev_bif ev_some (ev_bif (evx_chk (ev_bif ev_some (evx_chk (ev_bif ev_some (evx_chk (ev_bif ev_some (evx_chk (evx_chk (ev_bif ev_some (evx_chk (evx_chk (ev_bif (evx_chk (ev_bif ev_some (evx_chk (ev_bif ev_some (evx_chk (ev_bif ev_some (evx_chk (evx_chk (ev_bif ev_some (evx_chk (evx_chk (ev_bif (evx_chk (ev_bif ev_some (evx_chk (ev_bif ev_some (evx_chk (ev_bif ev_some (evx_chk (evx_chk (ev_bif ev_some (evx_chk (evx_chk (ev_bif (evx_chk (ev_bif ev_some (evx_chk (ev_bif ev_some (evx_chk (ev_bif ev_some (evx_chk (evx_chk (evx_chk1 ev_some))))))))) ev_some)))))))))))) ev_some)))))))))))) ev_some)))))))))))) ev_some)))))))
noncomputable def C_rwlk : Cfg := ⟨Try.prog, [E_rvts, E_rvcap, E_rlvs, E_rva, E_ftab, E_rix, E_fmap, E_cids], pmT [(3, ([(0, []), (1, []), (2, []), (3, []), (4, []), (5, []), (6, []), (7, []), (8, []), (9, []), (10, []), (11, []), (12, []), (13, []), (14, []), (15, []), (16, [])], [(20, 36)])), (13, ([(0, []), (1, []), (2, []), (3, []), (4, []), (5, []), (6, []), (7, []), (8, []), (9, []), (10, []), (11, []), (12, []), (13, []), (14, []), (15, []), (16, []), (17, []), (18, []), (19, []), (20, [])], [(60, 80)])), (15, ([(0, []), (1, []), (2, []), (3, []), (4, []), (5, []), (6, []), (7, []), (8, []), (9, []), (10, [])], [(12, 12), (82, 91)])), (19, ([(0, []), (1, []), (3, []), (4, []), (5, []), (2, []), (6, []), (7, [])], [(14, 14), (103, 109)]))], 129, [], [(110014, tSId)]⟩
theorem es_rwlk : EsOk Try.prog [E_rvts, E_rvcap, E_rlvs, E_rva, E_ftab, E_rix, E_fmap, E_cids] [] := es_cons E_rvts_ok (es_cons E_rvcap_ok (es_cons E_rlvs_ok (es_cons E_rva_ok (es_cons E_ftab_ok (es_cons E_rix_ok (es_cons E_fmap_ok (es_cons E_cids_ok (es_nil))))))))
def Lt_rwlk : Nat → LD := ldT [(0, ⟨[], [(0, 0)]⟩)]
noncomputable def M_rwlk (f : Nat) (a : (List (SPT)) × SCp × Int) : Option (STr × Int) := (runX (C_rwlk) Lt_rwlk (Kret Try.prog [.cell 6 45, .tmp 7] [.g tSTr, .v (.int .i64)]) f [.code (bodyOf Try.f51)] (initX [.rd tSPT, .g tSCp, .c (.int .i64)] a) : Option (ResT [.g tSTr, .v (.int .i64)]))
theorem M_rwlk_eq (f : Nat) (ts : List (SPT)) (root : SCp) (addr : Int) : M_rwlk (f + 1) (ts, root, addr) =
    bif okM ts then bif !tabsB ts then some ((0, 0, 0, 0, [], []), 1) else bif !vcapB root then some ((0, 0, 0, 0, [], []), 5) else bif root.1 != 3 then some ((0, 0, 0, 0, [], []), 5) else bif root.2.2.2.2.2.1 != IntKind.i64.wrap ((geoS root.2.2.2.2.1).1 - 1) then some ((0, 0, 0, 0, [], []), 5) else bif !vaS (root.2.2.2.2.1, addr) then some ((0, 0, 0, 0, [], []), 6) else bif decide (root.2.2.2.2.2.1 ≥ 0) then bif len40n ts then bif decide (ftS ts root.2.1 < 0) then some ((0, 0, 0, 0, [], []), 13) else bif decide (0 ≤ ftS ts root.2.1) && decide (ftS ts root.2.1 < (↑ts.length : Int)) then bif (taS ts root.2.1).2.1 != root.2.2.2.2.1 then some ((0, 0, 0, 0, [], []), 13) else bif decide (0 ≤ ftS ts root.2.1) && decide (ftS ts root.2.1 < (↑ts.length : Int)) then bif (taS ts root.2.1).2.2.1 != root.2.2.2.2.2.1 then some ((0, 0, 0, 0, [], []), 13) else bif decide (0 ≤ ftS ts root.2.1) && decide (ftS ts root.2.1 < (↑ts.length : Int)) then bif len40n (taS ts root.2.1).2.2.2 then bif decide (faS ts root.2.2.2.2.1 addr root.2.2.2.2.2.1 root.2.1 < 0) then some ((0, 0, 0, 0, [], []), 13) else bif decide (0 ≤ ftS ts root.2.1) && decide (ftS ts root.2.1 < (↑ts.length : Int)) then bif decide (0 ≤ faS ts root.2.2.2.2.1 addr root.2.2.2.2.2.1 root.2.1) && decide (faS ts root.2.2.2.2.1 addr root.2.2.2.2.2.1 root.2.1 < (↑(List.length (taS ts root.2.1).2.2.2) : Int)) then bif decide (IntKind.i64.wrap (root.2.2.2.2.2.1 - 1) ≥ 0) then bif len40n ts then bif decide (ftS ts (maS ts root.2.2.2.2.1 addr root.2.2.2.2.2.1 root.2.1).2.1 < 0) then some ((0, 0, 0, 0, [], []), 13) else bif decide (0 ≤ ftS ts (maS ts root.2.2.2.2.1 addr root.2.2.2.2.2.1 root.2.1).2.1) && decide (ftS ts (maS ts root.2.2.2.2.1 addr root.2.2.2.2.2.1 root.2.1).2.1 < (↑ts.length : Int)) then bif (taS ts (maS ts root.2.2.2.2.1 addr root.2.2.2.2.2.1 root.2.1).2.1).2.1 != root.2.2.2.2.1 then some ((0, 0, 0, 0, [], []), 13) else bif decide (0 ≤ ftS ts (maS ts root.2.2.2.2.1 addr root.2.2.2.2.2.1 root.2.1).2.1) && decide (ftS ts (maS ts root.2.2.2.2.1 addr root.2.2.2.2.2.1 root.2.1).2.1 < (↑ts.length : Int)) then bif (taS ts (maS ts root.2.2.2.2.1 addr root.2.2.2.2.2.1 root.2.1).2.1).2.2.1 != IntKind.i64.wrap (root.2.2.2.2.2.1 - 1) then some ((0, 0, 0, 0, [], []), 13) else bif decide (0 ≤ ftS ts (maS ts root.2.2.2.2.1 addr root.2.2.2.2.2.1 root.2.1).2.1) && decide (ftS ts (maS ts root.2.2.2.2.1 addr root.2.2.2.2.2.1 root.2.1).2.1 < (↑ts.length : Int)) then bif len40n (taS ts (maS ts root.2.2.2.2.1 addr root.2.2.2.2.2.1 root.2.1).2.1).2.2.2 then bif decide (faS ts root.2.2.2.2.1 addr (IntKind.i64.wrap (root.2.2.2.2.2.1 - 1)) (maS ts root.2.2.2.2.1 addr root.2.2.2.2.2.1 root.2.1).2.1 < 0) then some ((0, 0, 0, 0, [], []), 13) else bif decide (0 ≤ ftS ts (maS ts root.2.2.2.2.1 addr root.2.2.2.2.2.1 root.2.1).2.1) && decide (ftS ts (maS ts root.2.2.2.2.1 addr root.2.2.2.2.2.1 root.2.1).2.1 < (↑ts.length : Int)) then bif decide (0 ≤ faS ts root.2.2.2.2.1 addr (IntKind.i64.wrap (root.2.2.2.2.2.1 - 1)) (maS ts root.2.2.2.2.1 addr root.2.2.2.2.2.1 root.2.1).2.1) && decide (faS ts root.2.2.2.2.1 addr (IntKind.i64.wrap (root.2.2.2.2.2.1 - 1)) (maS ts root.2.2.2.2.1 addr root.2.2.2.2.2.1 root.2.1).2.1 < (↑(List.length (taS ts (maS ts root.2.2.2.2.1 addr root.2.2.2.2.2.1 root.2.1).2.1).2.2.2) : Int)) then bif decide (IntKind.i64.wrap (IntKind.i64.wrap (root.2.2.2.2.2.1 - 1) - 1) ≥ 0) then bif len40n ts then bif decide (ftS ts (maS ts root.2.2.2.2.1 addr (IntKind.i64.wrap (root.2.2.2.2.2.1 - 1)) (maS ts root.2.2.2.2.1 addr root.2.2.2.2.2.1 root.2.1).2.1).2.1 < 0) then some ((0, 0, 0, 0, [], []), 13) else bif decide (0 ≤ ftS ts (maS ts root.2.2.2.2.1 addr (IntKind.i64.wrap (root.2.2.2.2.2.1 - 1)) (maS ts root.2.2.2.2.1 addr root.2.2.2.2.2.1 root.2.1).2.1).2.1) && decide (ftS ts (maS ts root.2.2.2.2.1 addr (IntKind.i64.wrap (root.2.2.2.2.2.1 - 1)) (maS ts root.2.2.2.2.1 addr root.2.2.2.2.2.1 root.2.1).2.1).2.1 < (↑ts.length : Int)) then bif (taS ts (maS ts root.2.2.2.2.1 addr (IntKind.i64.wrap (root.2.2.2.2.2.1 - 1)) (maS ts root.2.2.2.2.1 addr root.2.2.2.2.2.1 root.2.1).2.1).2.1).2.1 != root.2.2.2.2.1 then some ((0, 0, 0, 0, [], []), 13) else bif decide (0 ≤ ftS ts (maS ts root.2.2.2.2.1 addr (IntKind.i64.wrap (root.2.2.2.2.2.1 - 1)) (maS ts root.2.2.2.2.1 addr root.2.2.2.2.2.1 root.2.1).2.1).2.1) && decide (ftS ts (maS ts root.2.2.2.2.1 addr (IntKind.i64.wrap (root.2.2.2.2.2.1 - 1)) (maS ts root.2.2.2.2.1 addr root.2.2.2.2.2.1 root.2.1).2.1).2.1 < (↑ts.length : Int)) then bif (taS ts (maS ts root.2.2.2.2.1 addr (IntKind.i64.wrap (root.2.2.2.2.2.1 - 1)) (maS ts root.2.2.2.2.1 addr root.2.2.2.2.2.1 root.2.1).2.1).2.1).2.2.1 != IntKind.i64.wrap (IntKind.i64.wrap (root.2.2.2.2.2.1 - 1) - 1) then some ((0, 0, 0, 0, [], []), 13) else bif decide (0 ≤ ftS ts (maS ts root.2.2.2.2.1 addr (IntKind.i64.wrap (root.2.2.2.2.2.1 - 1)) (maS ts root.2.2.2.2.1 addr root.2.2.2.2.2.1 root.2.1).2.1).2.1) && decide (ftS ts (maS ts root.2.2.2.2.1 addr (IntKind.i64.wrap (root.2.2.2.2.2.1 - 1)) (maS ts root.2.2.2.2.1 addr root.2.2.2.2.2.1 root.2.1).2.1).2.1 < (↑ts.length : Int)) then bif len40n (taS ts (maS ts root.2.2.2.2.1 addr (IntKind.i64.wrap (root.2.2.2.2.2.1 - 1)) (maS ts root.2.2.2.2.1 addr root.2.2.2.2.2.1 root.2.1).2.1).2.1).2.2.2 then bif decide (faS ts root.2.2.2.2.1 addr (IntKind.i64.wrap (IntKind.i64.wrap (root.2.2.2.2.2.1 - 1) - 1)) (maS ts root.2.2.2.2.1 addr (IntKind.i64.wrap (root.2.2.2.2.2.1 - 1)) (maS ts root.2.2.2.2.1 addr root.2.2.2.2.2.1 root.2.1).2.1).2.1 < 0) then some ((0, 0, 0, 0, [], []), 13) else bif decide (0 ≤ ftS ts (maS ts root.2.2.2.2.1 addr (IntKind.i64.wrap (root.2.2.2.2.2.1 - 1)) (maS ts root.2.2.2.2.1 addr root.2.2.2.2.2.1 root.2.1).2.1).2.1) && decide (ftS ts (maS ts root.2.2.2.2.1 addr (IntKind.i64.wrap (root.2.2.2.2.2.1 - 1)) (maS ts root.2.2.2.2.1 addr root.2.2.2.2.2.1 root.2.1).2.1).2.1 < (↑ts.length : Int)) then bif decide (0 ≤ faS ts root.2.2.2.2.1 addr (IntKind.i64.wrap (IntKind.i64.wrap (root.2.2.2.2.2.1 - 1) - 1)) (maS ts root.2.2.2.2.1 addr (IntKind.i64.wrap (root.2.2.2.2.2.1 - 1)) (maS ts root.2.2.2.2.1 addr root.2.2.2.2.2.1 root.2.1).2.1).2.1) && decide (faS ts root.2.2.2.2.1 addr (IntKind.i64.wrap (IntKind.i64.wrap (root.2.2.2.2.2.1 - 1) - 1)) (maS ts root.2.2.2.2.1 addr (IntKind.i64.wrap (root.2.2.2.2.2.1 - 1)) (maS ts root.2.2.2.2.1 addr root.2.2.2.2.2.1 root.2.1).2.1).2.1 < (↑(List.length (taS ts (maS ts root.2.2.2.2.1 addr (IntKind.i64.wrap (root.2.2.2.2.2.1 - 1)) (maS ts root.2.2.2.2.1 addr root.2.2.2.2.2.1 root.2.1).2.1).2.1).2.2.2) : Int)) then bif decide (IntKind.i64.wrap (IntKind.i64.wrap (IntKind.i64.wrap (root.2.2.2.2.2.1 - 1) - 1) - 1) ≥ 0) then bif len40n ts then bif decide (ftS ts (maS ts root.2.2.2.2.1 addr (IntKind.i64.wrap (IntKind.i64.wrap (root.2.2.2.2.2.1 - 1) - 1)) (maS ts root.2.2.2.2.1 addr (IntKind.i64.wrap (root.2.2.2.2.2.1 - 1)) (maS ts root.2.2.2.2.1 addr root.2.2.2.2.2.1 root.2.1).2.1).2.1).2.1 < 0) then some ((0, 0, 0, 0, [], []), 13) else bif decide (0 ≤ ftS ts (maS ts root.2.2.2.2.1 addr (IntKind.i64.wrap (IntKind.i64.wrap (root.2.2.2.2.2.1 - 1) - 1)) (maS ts root.2.2.2.2.1 addr (IntKind.i64.wrap (root.2.2.2.2.2.1 - 1)) (maS ts root.2.2.2.2.1 addr root.2.2.2.2.2.1 root.2.1).2.1).2.1).2.1) && decide (ftS ts (maS ts root.2.2.2.2.1 addr (IntKind.i64.wrap (IntKind.i64.wrap (root.2.2.2.2.2.1 - 1) - 1)) (maS ts root.2.2.2.2.1 addr (IntKind.i64.wrap (root.2.2.2.2.2.1 - 1)) (maS ts root.2.2.2.2.1 addr root.2.2.2.2.2.1 root.2.1).2.1).2.1).2.1 < (↑ts.length : Int)) then bif (taS ts (maS ts root.2.2.2.2.1 addr (IntKind.i64.wrap (IntKind.i64.wrap (root.2.2.2.2.2.1 - 1) - 1)) (maS ts root.2.2.2.2.1 addr (IntKind.i64.wrap (root.2.2.2.2.2.1 - 1)) (maS ts root.2.2.2.2.1 addr root.2.2.2.2.2.1 root.2.1).2.1).2.1).2.1).2.1 != root.2.2.2.2.1 then some ((0, 0, 0, 0, [], []), 13) else bif decide (0 ≤ ftS ts (maS ts root.2.2.2.2.1 addr (IntKind.i64.wrap (IntKind.i64.wrap (root.2.2.2.2.2.1 - 1) - 1)) (maS ts root.2.2.2.2.1 addr (IntKind.i64.wrap (root.2.2.2.2.2.1 - 1)) (maS ts root.2.2.2.2.1 addr root.2.2.2.2.2.1 root.2.1).2.1).2.1).2.1) && decide (ftS ts (maS ts root.2.2.2.2.1 addr (IntKind.i64.wrap (IntKind.i64.wrap (root.2.2.2.2.2.1 - 1) - 1)) (maS ts root.2.2.2.2.1 addr (IntKind.i64.wrap (root.2.2.2.2.2.1 - 1)) (maS ts root.2.2.2.2.1 addr root.2.2.2.2.2.1 root.2.1).2.1).2.1).2.1 < (↑ts.length : Int)) then bif (taS ts (maS ts root.2.2.2.2.1 addr (IntKind.i64.wrap (IntKind.i64.wrap (root.2.2.2.2.2.1 - 1) - 1)) (maS ts root.2.2.2.2.1 addr (IntKind.i64.wrap (root.2.2.2.2.2.1 - 1)) (maS ts root.2.2.2.2.1 addr root.2.2.2.2.2.1 root.2.1).2.1).2.1).2.1).2.2.1 != IntKind.i64.wrap (IntKind.i64.wrap (IntKind.i64.wrap (root.2.2.2.2.2.1 - 1) - 1) - 1) then some ((0, 0, 0, 0, [], []), 13) else bif decide (0 ≤ ftS ts (maS ts root.2.2.2.2.1 addr (IntKind.i64.wrap (IntKind.i64.wrap (root.2.2.2.2.2.1 - 1) - 1)) (maS ts root.2.2.2.2.1 addr (IntKind.i64.wrap (root.2.2.2.2.2.1 - 1)) (maS ts root.2.2.2.2.1 addr root.2.2.2.2.2.1 root.2.1).2.1).2.1).2.1) && decide (ftS ts (maS ts root.2.2.2.2.1 addr (IntKind.i64.wrap (IntKind.i64.wrap (root.2.2.2.2.2.1 - 1) - 1)) (maS ts root.2.2.2.2.1 addr (IntKind.i64.wrap (root.2.2.2.2.2.1 - 1)) (maS ts root.2.2.2.2.1 addr root.2.2.2.2.2.1 root.2.1).2.1).2.1).2.1 < (↑ts.length : Int)) then bif len40n (taS ts (maS ts root.2.2.2.2.1 addr (IntKind.i64.wrap (IntKind.i64.wrap (root.2.2.2.2.2.1 - 1) - 1)) (maS ts root.2.2.2.2.1 addr (IntKind.i64.wrap (root.2.2.2.2.2.1 - 1)) (maS ts root.2.2.2.2.1 addr root.2.2.2.2.2.1 root.2.1).2.1).2.1).2.1).2.2.2 then bif decide (faS ts root.2.2.2.2.1 addr (IntKind.i64.wrap (IntKind.i64.wrap (IntKind.i64.wrap (root.2.2.2.2.2.1 - 1) - 1) - 1)) (maS ts root.2.2.2.2.1 addr (IntKind.i64.wrap (IntKind.i64.wrap (root.2.2.2.2.2.1 - 1) - 1)) (maS ts root.2.2.2.2.1 addr (IntKind.i64.wrap (root.2.2.2.2.2.1 - 1)) (maS ts root.2.2.2.2.1 addr root.2.2.2.2.2.1 root.2.1).2.1).2.1).2.1 < 0) then some ((0, 0, 0, 0, [], []), 13) else bif decide (0 ≤ ftS ts (maS ts root.2.2.2.2.1 addr (IntKind.i64.wrap (IntKind.i64.wrap (root.2.2.2.2.2.1 - 1) - 1)) (maS ts root.2.2.2.2.1 addr (IntKind.i64.wrap (root.2.2.2.2.2.1 - 1)) (maS ts root.2.2.2.2.1 addr root.2.2.2.2.2.1 root.2.1).2.1).2.1).2.1) && decide (ftS ts (maS ts root.2.2.2.2.1 addr (IntKind.i64.wrap (IntKind.i64.wrap (root.2.2.2.2.2.1 - 1) - 1)) (maS ts root.2.2.2.2.1 addr (IntKind.i64.wrap (root.2.2.2.2.2.1 - 1)) (maS ts root.2.2.2.2.1 addr root.2.2.2.2.2.1 root.2.1).2.1).2.1).2.1 < (↑ts.length : Int)) then bif decide (0 ≤ faS ts root.2.2.2.2.1 addr (IntKind.i64.wrap (IntKind.i64.wrap (IntKind.i64.wrap (root.2.2.2.2.2.1 - 1) - 1) - 1)) (maS ts root.2.2.2.2.1 addr (IntKind.i64.wrap (IntKind.i64.wrap (root.2.2.2.2.2.1 - 1) - 1)) (maS ts root.2.2.2.2.1 addr (IntKind.i64.wrap (root.2.2.2.2.2.1 - 1)) (maS ts root.2.2.2.2.1 addr root.2.2.2.2.2.1 root.2.1).2.1).2.1).2.1) && decide (faS ts root.2.2.2.2.1 addr (IntKind.i64.wrap (IntKind.i64.wrap (IntKind.i64.wrap (root.2.2.2.2.2.1 - 1) - 1) - 1)) (maS ts root.2.2.2.2.1 addr (IntKind.i64.wrap (IntKind.i64.wrap (root.2.2.2.2.2.1 - 1) - 1)) (maS ts root.2.2.2.2.1 addr (IntKind.i64.wrap (root.2.2.2.2.2.1 - 1)) (maS ts root.2.2.2.2.1 addr root.2.2.2.2.2.1 root.2.1).2.1).2.1).2.1 < (↑(List.length (taS ts (maS ts root.2.2.2.2.1 addr (IntKind.i64.wrap (IntKind.i64.wrap (root.2.2.2.2.2.1 - 1) - 1)) (maS ts root.2.2.2.2.1 addr (IntKind.i64.wrap (root.2.2.2.2.2.1 - 1)) (maS ts root.2.2.2.2.1 addr root.2.2.2.2.2.1 root.2.1).2.1).2.1).2.1).2.2.2) : Int)) then none else none else none else none else none else none else none else none else some ((root.2.1, IntKind.i64.wrap (addr.tdiv 4096), (maS ts root.2.2.2.2.1 addr (IntKind.i64.wrap (IntKind.i64.wrap (root.2.2.2.2.2.1 - 1) - 1)) (maS ts root.2.2.2.2.1 addr (IntKind.i64.wrap (root.2.2.2.2.2.1 - 1)) (maS ts root.2.2.2.2.1 addr root.2.2.2.2.2.1 root.2.1).2.1).2.1).2.1, (maS ts root.2.2.2.2.1 addr (IntKind.i64.wrap (IntKind.i64.wrap (root.2.2.2.2.2.1 - 1) - 1)) (maS ts root.2.2.2.2.1 addr (IntKind.i64.wrap (root.2.2.2.2.2.1 - 1)) (maS ts root.2.2.2.2.1 addr root.2.2.2.2.2.1 root.2.1).2.1).2.1).2.2.1, [] ++ [(maS ts root.2.2.2.2.1 addr root.2.2.2.2.2.1 root.2.1).2.2.2] ++ [(maS ts root.2.2.2.2.1 addr (IntKind.i64.wrap (root.2.2.2.2.2.1 - 1)) (maS ts root.2.2.2.2.1 addr root.2.2.2.2.2.1 root.2.1).2.1).2.2.2] ++ [(maS ts root.2.2.2.2.1 addr (IntKind.i64.wrap (IntKind.i64.wrap (root.2.2.2.2.2.1 - 1) - 1)) (maS ts root.2.2.2.2.1 addr (IntKind.i64.wrap (root.2.2.2.2.2.1 - 1)) (maS ts root.2.2.2.2.1 addr root.2.2.2.2.2.1 root.2.1).2.1).2.1).2.2.2], [] ++ [root.2.1] ++ [(maS ts root.2.2.2.2.1 addr root.2.2.2.2.2.1 root.2.1).2.1] ++ [(maS ts root.2.2.2.2.1 addr (IntKind.i64.wrap (root.2.2.2.2.2.1 - 1)) (maS ts root.2.2.2.2.1 addr root.2.2.2.2.2.1 root.2.1).2.1).2.1]), 0) else none else none else none else none else none else none else none else some ((root.2.1, IntKind.i64.wrap (addr.tdiv 4096), (maS ts root.2.2.2.2.1 addr (IntKind.i64.wrap (root.2.2.2.2.2.1 - 1)) (maS ts root.2.2.2.2.1 addr root.2.2.2.2.2.1 root.2.1).2.1).2.1, (maS ts root.2.2.2.2.1 addr (IntKind.i64.wrap (root.2.2.2.2.2.1 - 1)) (maS ts root.2.2.2.2.1 addr root.2.2.2.2.2.1 root.2.1).2.1).2.2.1, [] ++ [(maS ts root.2.2.2.2.1 addr root.2.2.2.2.2.1 root.2.1).2.2.2] ++ [(maS ts root.2.2.2.2.1 addr (IntKind.i64.wrap (root.2.2.2.2.2.1 - 1)) (maS ts root.2.2.2.2.1 addr root.2.2.2.2.2.1 root.2.1).2.1).2.2.2], [] ++ [root.2.1] ++ [(maS ts root.2.2.2.2.1 addr root.2.2.2.2.2.1 root.2.1).2.1]), 0) else none else none else none else none else none else none else none else some ((root.2.1, IntKind.i64.wrap (addr.tdiv 4096), (maS ts root.2.2.2.2.1 addr root.2.2.2.2.2.1 root.2.1).2.1, (maS ts root.2.2.2.2.1 addr root.2.2.2.2.2.1 root.2.1).2.2.1, [] ++ [(maS ts root.2.2.2.2.1 addr root.2.2.2.2.2.1 root.2.1).2.2.2], [] ++ [root.2.1]), 0) else none else none else none else none else none else none else none else some ((root.2.1, IntKind.i64.wrap (addr.tdiv 4096), 0, 0, [], []), 0) else none := by kernel_rfl
noncomputable def F_rwlk : ((List (SPT)) × SCp × Int) → STr × Int
  | (ts, root, addr) => bif !tabsB ts then ((0, 0, 0, 0, [], []), 1) else bif !vcapB root then ((0, 0, 0, 0, [], []), 5) else bif root.1 != 3 then ((0, 0, 0, 0, [], []), 5) else bif root.2.2.2.2.2.1 != IntKind.i64.wrap ((geoS root.2.2.2.2.1).1 - 1) then ((0, 0, 0, 0, [], []), 5) else bif !vaS (root.2.2.2.2.1, addr) then ((0, 0, 0, 0, [], []), 6) else bif decide (root.2.2.2.2.2.1 ≥ 0) then bif decide (ftS ts root.2.1 < 0) then ((0, 0, 0, 0, [], []), 13) else bif (taS ts root.2.1).2.1 != root.2.2.2.2.1 then ((0, 0, 0, 0, [], []), 13) else bif (taS ts root.2.1).2.2.1 != root.2.2.2.2.2.1 then ((0, 0, 0, 0, [], []), 13) else bif decide (faS ts root.2.2.2.2.1 addr root.2.2.2.2.2.1 root.2.1 < 0) then ((0, 0, 0, 0, [], []), 13) else bif decide (IntKind.i64.wrap (root.2.2.2.2.2.1 - 1) ≥ 0) then bif decide (ftS ts (maS ts root.2.2.2.2.1 addr root.2.2.2.2.2.1 root.2.1).2.1 < 0) then ((0, 0, 0, 0, [], []), 13) else bif (taS ts (maS ts root.2.2.2.2.1 addr root.2.2.2.2.2.1 root.2.1).2.1).2.1 != root.2.2.2.2.1 then ((0, 0, 0, 0, [], []), 13) else bif (taS ts (maS ts root.2.2.2.2.1 addr root.2.2.2.2.2.1 root.2.1).2.1).2.2.1 != IntKind.i64.wrap (root.2.2.2.2.2.1 - 1) then ((0, 0, 0, 0, [], []), 13) else bif decide (faS ts root.2.2.2.2.1 addr (IntKind.i64.wrap (root.2.2.2.2.2.1 - 1)) (maS ts root.2.2.2.2.1 addr root.2.2.2.2.2.1 root.2.1).2.1 < 0) then ((0, 0, 0, 0, [], []), 13) else bif decide (IntKind.i64.wrap (IntKind.i64.wrap (root.2.2.2.2.2.1 - 1) - 1) ≥ 0) then bif decide (ftS ts (maS ts root.2.2.2.2.1 addr (IntKind.i64.wrap (root.2.2.2.2.2.1 - 1)) (maS ts root.2.2.2.2.1 addr root.2.2.2.2.2.1 root.2.1).2.1).2.1 < 0) then ((0, 0, 0, 0, [], []), 13) else bif (taS ts (maS ts root.2.2.2.2.1 addr (IntKind.i64.wrap (root.2.2.2.2.2.1 - 1)) (maS ts root.2.2.2.2.1 addr root.2.2.2.2.2.1 root.2.1).2.1).2.1).2.1 != root.2.2.2.2.1 then ((0, 0, 0, 0, [], []), 13) else bif (taS ts (maS ts root.2.2.2.2.1 addr (IntKind.i64.wrap (root.2.2.2.2.2.1 - 1)) (maS ts root.2.2.2.2.1 addr root.2.2.2.2.2.1 root.2.1).2.1).2.1).2.2.1 != IntKind.i64.wrap (IntKind.i64.wrap (root.2.2.2.2.2.1 - 1) - 1) then ((0, 0, 0, 0, [], []), 13) else bif decide (faS ts root.2.2.2.2.1 addr (IntKind.i64.wrap (IntKind.i64.wrap (root.2.2.2.2.2.1 - 1) - 1)) (maS ts root.2.2.2.2.1 addr (IntKind.i64.wrap (root.2.2.2.2.2.1 - 1)) (maS ts root.2.2.2.2.1 addr root.2.2.2.2.2.1 root.2.1).2.1).2.1 < 0) then ((0, 0, 0, 0, [], []), 13) else bif decide (IntKind.i64.wrap (IntKind.i64.wrap (IntKind.i64.wrap (root.2.2.2.2.2.1 - 1) - 1) - 1) ≥ 0) then bif decide (ftS ts (maS ts root.2.2.2.2.1 addr (IntKind.i64.wrap (IntKind.i64.wrap (root.2.2.2.2.2.1 - 1) - 1)) (maS ts root.2.2.2.2.1 addr (IntKind.i64.wrap (root.2.2.2.2.2.1 - 1)) (maS ts root.2.2.2.2.1 addr root.2.2.2.2.2.1 root.2.1).2.1).2.1).2.1 < 0) then ((0, 0, 0, 0, [], []), 13) else bif (taS ts (maS ts root.2.2.2.2.1 addr (IntKind.i64.wrap (IntKind.i64.wrap (root.2.2.2.2.2.1 - 1) - 1)) (maS ts root.2.2.2.2.1 addr (IntKind.i64.wrap (root.2.2.2.2.2.1 - 1)) (maS ts root.2.2.2.2.1 addr root.2.2.2.2.2.1 root.2.1).2.1).2.1).2.1).2.1 != root.2.2.2.2.1 then ((0, 0, 0, 0, [], []), 13) else bif (taS ts (maS ts root.2.2.2.2.1 addr (IntKind.i64.wrap (IntKind.i64.wrap (root.2.2.2.2.2.1 - 1) - 1)) (maS ts root.2.2.2.2.1 addr (IntKind.i64.wrap (root.2.2.2.2.2.1 - 1)) (maS ts root.2.2.2.2.1 addr root.2.2.2.2.2.1 root.2.1).2.1).2.1).2.1).2.2.1 != IntKind.i64.wrap (IntKind.i64.wrap (IntKind.i64.wrap (root.2.2.2.2.2.1 - 1) - 1) - 1) then ((0, 0, 0, 0, [], []), 13) else ((0, 0, 0, 0, [], []), 13) else ((root.2.1, IntKind.i64.wrap (addr.tdiv 4096), (maS ts root.2.2.2.2.1 addr (IntKind.i64.wrap (IntKind.i64.wrap (root.2.2.2.2.2.1 - 1) - 1)) (maS ts root.2.2.2.2.1 addr (IntKind.i64.wrap (root.2.2.2.2.2.1 - 1)) (maS ts root.2.2.2.2.1 addr root.2.2.2.2.2.1 root.2.1).2.1).2.1).2.1, (maS ts root.2.2.2.2.1 addr (IntKind.i64.wrap (IntKind.i64.wrap (root.2.2.2.2.2.1 - 1) - 1)) (maS ts root.2.2.2.2.1 addr (IntKind.i64.wrap (root.2.2.2.2.2.1 - 1)) (maS ts root.2.2.2.2.1 addr root.2.2.2.2.2.1 root.2.1).2.1).2.1).2.2.1, [] ++ [(maS ts root.2.2.2.2.1 addr root.2.2.2.2.2.1 root.2.1).2.2.2] ++ [(maS ts root.2.2.2.2.1 addr (IntKind.i64.wrap (root.2.2.2.2.2.1 - 1)) (maS ts root.2.2.2.2.1 addr root.2.2.2.2.2.1 root.2.1).2.1).2.2.2] ++ [(maS ts root.2.2.2.2.1 addr (IntKind.i64.wrap (IntKind.i64.wrap (root.2.2.2.2.2.1 - 1) - 1)) (maS ts root.2.2.2.2.1 addr (IntKind.i64.wrap (root.2.2.2.2.2.1 - 1)) (maS ts root.2.2.2.2.1 addr root.2.2.2.2.2.1 root.2.1).2.1).2.1).2.2.2], [] ++ [root.2.1] ++ [(maS ts root.2.2.2.2.1 addr root.2.2.2.2.2.1 root.2.1).2.1] ++ [(maS ts root.2.2.2.2.1 addr (IntKind.i64.wrap (root.2.2.2.2.2.1 - 1)) (maS ts root.2.2.2.2.1 addr root.2.2.2.2.2.1 root.2.1).2.1).2.1]), 0) else ((root.2.1, IntKind.i64.wrap (addr.tdiv 4096), (maS ts root.2.2.2.2.1 addr (IntKind.i64.wrap (root.2.2.2.2.2.1 - 1)) (maS ts root.2.2.2.2.1 addr root.2.2.2.2.2.1 root.2.1).2.1).2.1, (maS ts root.2.2.2.2.1 addr (IntKind.i64.wrap (root.2.2.2.2.2.1 - 1)) (maS ts root.2.2.2.2.1 addr root.2.2.2.2.2.1 root.2.1).2.1).2.2.1, [] ++ [(maS ts root.2.2.2.2.1 addr root.2.2.2.2.2.1 root.2.1).2.2.2] ++ [(maS ts root.2.2.2.2.1 addr (IntKind.i64.wrap (root.2.2.2.2.2.1 - 1)) (maS ts root.2.2.2.2.1 addr root.2.2.2.2.2.1 root.2.1).2.1).2.2.2], [] ++ [root.2.1] ++ [(maS ts root.2.2.2.2.1 addr root.2.2.2.2.2.1 root.2.1).2.1]), 0) else ((root.2.1, IntKind.i64.wrap (addr.tdiv 4096), (maS ts root.2.2.2.2.1 addr root.2.2.2.2.2.1 root.2.1).2.1, (maS ts root.2.2.2.2.1 addr root.2.2.2.2.2.1 root.2.1).2.2.1, [] ++ [(maS ts root.2.2.2.2.1 addr root.2.2.2.2.2.1 root.2.1).2.2.2], [] ++ [root.2.1]), 0) else ((root.2.1, IntKind.i64.wrap (addr.tdiv 4096), 0, 0, [], []), 0)
noncomputable def P_rwlk : ((List (SPT)) × SCp × Int) → Bool
  | (ts, root, addr) => okM ts && bif !tabsB ts then true else bif !vcapB root then true else bif root.1 != 3 then true else bif root.2.2.2.2.2.1 != IntKind.i64.wrap ((geoS root.2.2.2.2.1).1 - 1) then true else bif !vaS (root.2.2.2.2.1, addr) then true else bif decide (root.2.2.2.2.2.1 ≥ 0) then len40n ts && bif decide (ftS ts root.2.1 < 0) then true else decide (0 ≤ ftS ts root.2.1) && decide (ftS ts root.2.1 < (↑ts.length : Int)) && bif (taS ts root.2.1).2.1 != root.2.2.2.2.1 then true else decide (0 ≤ ftS ts root.2.1) && decide (ftS ts root.2.1 < (↑ts.length : Int)) && bif (taS ts root.2.1).2.2.1 != root.2.2.2.2.2.1 then true else decide (0 ≤ ftS ts root.2.1) && decide (ftS ts root.2.1 < (↑ts.length : Int)) && (len40n (taS ts root.2.1).2.2.2 && bif decide (faS ts root.2.2.2.2.1 addr root.2.2.2.2.2.1 root.2.1 < 0) then true else decide (0 ≤ ftS ts root.2.1) && decide (ftS ts root.2.1 < (↑ts.length : Int)) && (decide (0 ≤ faS ts root.2.2.2.2.1 addr root.2.2.2.2.2.1 root.2.1) && decide (faS ts root.2.2.2.2.1 addr root.2.2.2.2.2.1 root.2.1 < (↑(List.length (taS ts root.2.1).2.2.2) : Int)) && bif decide (IntKind.i64.wrap (root.2.2.2.2.2.1 - 1) ≥ 0) then len40n ts && bif decide (ftS ts (maS ts root.2.2.2.2.1 addr root.2.2.2.2.2.1 root.2.1).2.1 < 0) then true else decide (0 ≤ ftS ts (maS ts root.2.2.2.2.1 addr root.2.2.2.2.2.1 root.2.1).2.1) && decide (ftS ts (maS ts root.2.2.2.2.1 addr root.2.2.2.2.2.1 root.2.1).2.1 < (↑ts.length : Int)) && bif (taS ts (maS ts root.2.2.2.2.1 addr root.2.2.2.2.2.1 root.2.1).2.1).2.1 != root.2.2.2.2.1 then true else decide (0 ≤ ftS ts (maS ts root.2.2.2.2.1 addr root.2.2.2.2.2.1 root.2.1).2.1) && decide (ftS ts (maS ts root.2.2.2.2.1 addr root.2.2.2.2.2.1 root.2.1).2.1 < (↑ts.length : Int)) && bif (taS ts (maS ts root.2.2.2.2.1 addr root.2.2.2.2.2.1 root.2.1).2.1).2.2.1 != IntKind.i64.wrap (root.2.2.2.2.2.1 - 1) then true else decide (0 ≤ ftS ts (maS ts root.2.2.2.2.1 addr root.2.2.2.2.2.1 root.2.1).2.1) && decide (ftS ts (maS ts root.2.2.2.2.1 addr root.2.2.2.2.2.1 root.2.1).2.1 < (↑ts.length : Int)) && (len40n (taS ts (maS ts root.2.2.2.2.1 addr root.2.2.2.2.2.1 root.2.1).2.1).2.2.2 && bif decide (faS ts root.2.2.2.2.1 addr (IntKind.i64.wrap (root.2.2.2.2.2.1 - 1)) (maS ts root.2.2.2.2.1 addr root.2.2.2.2.2.1 root.2.1).2.1 < 0) then true else decide (0 ≤ ftS ts (maS ts root.2.2.2.2.1 addr root.2.2.2.2.2.1 root.2.1).2.1) && decide (ftS ts (maS ts root.2.2.2.2.1 addr root.2.2.2.2.2.1 root.2.1).2.1 < (↑ts.length : Int)) && (decide (0 ≤ faS ts root.2.2.2.2.1 addr (IntKind.i64.wrap (root.2.2.2.2.2.1 - 1)) (maS ts root.2.2.2.2.1 addr root.2.2.2.2.2.1 root.2.1).2.1) && decide (faS ts root.2.2.2.2.1 addr (IntKind.i64.wrap (root.2.2.2.2.2.1 - 1)) (maS ts root.2.2.2.2.1 addr root.2.2.2.2.2.1 root.2.1).2.1 < (↑(List.length (taS ts (maS ts root.2.2.2.2.1 addr root.2.2.2.2.2.1 root.2.1).2.1).2.2.2) : Int)) && bif decide (IntKind.i64.wrap (IntKind.i64.wrap (root.2.2.2.2.2.1 - 1) - 1) ≥ 0) then len40n ts && bif decide (ftS ts (maS ts root.2.2.2.2.1 addr (IntKind.i64.wrap (root.2.2.2.2.2.1 - 1)) (maS ts root.2.2.2.2.1 addr root.2.2.2.2.2.1 root.2.1).2.1).2.1 < 0) then true else decide (0 ≤ ftS ts (maS ts root.2.2.2.2.1 addr (IntKind.i64.wrap (root.2.2.2.2.2.1 - 1)) (maS ts root.2.2.2.2.1 addr root.2.2.2.2.2.1 root.2.1).2.1).2.1) && decide (ftS ts (maS ts root.2.2.2.2.1 addr (IntKind.i64.wrap (root.2.2.2.2.2.1 - 1)) (maS ts root.2.2.2.2.1 addr root.2.2.2.2.2.1 root.2.1).2.1).2.1 < (↑ts.length : Int)) && bif (taS ts (maS ts root.2.2.2.2.1 addr (IntKind.i64.wrap (root.2.2.2.2.2.1 - 1)) (maS ts root.2.2.2.2.1 addr root.2.2.2.2.2.1 root.2.1).2.1).2.1).2.1 != root.2.2.2.2.1 then true else decide (0 ≤ ftS ts (maS ts root.2.2.2.2.1 addr (IntKind.i64.wrap (root.2.2.2.2.2.1 - 1)) (maS ts root.2.2.2.2.1 addr root.2.2.2.2.2.1 root.2.1).2.1).2.1) && decide (ftS ts (maS ts root.2.2.2.2.1 addr (IntKind.i64.wrap (root.2.2.2.2.2.1 - 1)) (maS ts root.2.2.2.2.1 addr root.2.2.2.2.2.1 root.2.1).2.1).2.1 < (↑ts.length : Int)) && bif (taS ts (maS ts root.2.2.2.2.1 addr (IntKind.i64.wrap (root.2.2.2.2.2.1 - 1)) (maS ts root.2.2.2.2.1 addr root.2.2.2.2.2.1 root.2.1).2.1).2.1).2.2.1 != IntKind.i64.wrap (IntKind.i64.wrap (root.2.2.2.2.2.1 - 1) - 1) then true else decide (0 ≤ ftS ts (maS ts root.2.2.2.2.1 addr (IntKind.i64.wrap (root.2.2.2.2.2.1 - 1)) (maS ts root.2.2.2.2.1 addr root.2.2.2.2.2.1 root.2.1).2.1).2.1) && decide (ftS ts (maS ts root.2.2.2.2.1 addr (IntKind.i64.wrap (root.2.2.2.2.2.1 - 1)) (maS ts root.2.2.2.2.1 addr root.2.2.2.2.2.1 root.2.1).2.1).2.1 < (↑ts.length : Int)) && (len40n (taS ts (maS ts root.2.2.2.2.1 addr (IntKind.i64.wrap (root.2.2.2.2.2.1 - 1)) (maS ts root.2.2.2.2.1 addr root.2.2.2.2.2.1 root.2.1).2.1).2.1).2.2.2 && bif decide (faS ts root.2.2.2.2.1 addr (IntKind.i64.wrap (IntKind.i64.wrap (root.2.2.2.2.2.1 - 1) - 1)) (maS ts root.2.2.2.2.1 addr (IntKind.i64.wrap (root.2.2.2.2.2.1 - 1)) (maS ts root.2.2.2.2.1 addr root.2.2.2.2.2.1 root.2.1).2.1).2.1 < 0) then true else decide (0 ≤ ftS ts (maS ts root.2.2.2.2.1 addr (IntKind.i64.wrap (root.2.2.2.2.2.1 - 1)) (maS ts root.2.2.2.2.1 addr root.2.2.2.2.2.1 root.2.1).2.1).2.1) && decide (ftS ts (maS ts root.2.2.2.2.1 addr (IntKind.i64.wrap (root.2.2.2.2.2.1 - 1)) (maS ts root.2.2.2.2.1 addr root.2.2.2.2.2.1 root.2.1).2.1).2.1 < (↑ts.length : Int)) && (decide (0 ≤ faS ts root.2.2.2.2.1 addr (IntKind.i64.wrap (IntKind.i64.wrap (root.2.2.2.2.2.1 - 1) - 1)) (maS ts root.2.2.2.2.1 addr (IntKind.i64.wrap (root.2.2.2.2.2.1 - 1)) (maS ts root.2.2.2.2.1 addr root.2.2.2.2.2.1 root.2.1).2.1).2.1) && decide (faS ts root.2.2.2.2.1 addr (IntKind.i64.wrap (IntKind.i64.wrap (root.2.2.2.2.2.1 - 1) - 1)) (maS ts root.2.2.2.2.1 addr (IntKind.i64.wrap (root.2.2.2.2.2.1 - 1)) (maS ts root.2.2.2.2.1 addr root.2.2.2.2.2.1 root.2.1).2.1).2.1 < (↑(List.length (taS ts (maS ts root.2.2.2.2.1 addr (IntKind.i64.wrap (root.2.2.2.2.2.1 - 1)) (maS ts root.2.2.2.2.1 addr root.2.2.2.2.2.1 root.2.1).2.1).2.1).2.2.2) : Int)) && bif decide (IntKind.i64.wrap (IntKind.i64.wrap (IntKind.i64.wrap (root.2.2.2.2.2.1 - 1) - 1) - 1) ≥ 0) then len40n ts && bif decide (ftS ts (maS ts root.2.2.2.2.1 addr (IntKind.i64.wrap (IntKind.i64.wrap (root.2.2.2.2.2.1 - 1) - 1)) (maS ts root.2.2.2.2.1 addr (IntKind.i64.wrap (root.2.2.2.2.2.1 - 1)) (maS ts root.2.2.2.2.1 addr root.2.2.2.2.2.1 root.2.1).2.1).2.1).2.1 < 0) then true else decide (0 ≤ ftS ts (maS ts root.2.2.2.2.1 addr (IntKind.i64.wrap (IntKind.i64.wrap (root.2.2.2.2.2.1 - 1) - 1)) (maS ts root.2.2.2.2.1 addr (IntKind.i64.wrap (root.2.2.2.2.2.1 - 1)) (maS ts root.2.2.2.2.1 addr root.2.2.2.2.2.1 root.2.1).2.1).2.1).2.1) && decide (ftS ts (maS ts root.2.2.2.2.1 addr (IntKind.i64.wrap (IntKind.i64.wrap (root.2.2.2.2.2.1 - 1) - 1)) (maS ts root.2.2.2.2.1 addr (IntKind.i64.wrap (root.2.2.2.2.2.1 - 1)) (maS ts root.2.2.2.2.1 addr root.2.2.2.2.2.1 root.2.1).2.1).2.1).2.1 < (↑ts.length : Int)) && bif (taS ts (maS ts root.2.2.2.2.1 addr (IntKind.i64.wrap (IntKind.i64.wrap (root.2.2.2.2.2.1 - 1) - 1)) (maS ts root.2.2.2.2.1 addr (IntKind.i64.wrap (root.2.2.2.2.2.1 - 1)) (maS ts root.2.2.2.2.1 addr root.2.2.2.2.2.1 root.2.1).2.1).2.1).2.1).2.1 != root.2.2.2.2.1 then true else decide (0 ≤ ftS ts (maS ts root.2.2.2.2.1 addr (IntKind.i64.wrap (IntKind.i64.wrap (root.2.2.2.2.2.1 - 1) - 1)) (maS ts root.2.2.2.2.1 addr (IntKind.i64.wrap (root.2.2.2.2.2.1 - 1)) (maS ts root.2.2.2.2.1 addr root.2.2.2.2.2.1 root.2.1).2.1).2.1).2.1) && decide (ftS ts (maS ts root.2.2.2.2.1 addr (IntKind.i64.wrap (IntKind.i64.wrap (root.2.2.2.2.2.1 - 1) - 1)) (maS ts root.2.2.2.2.1 addr (IntKind.i64.wrap (root.2.2.2.2.2.1 - 1)) (maS ts root.2.2.2.2.1 addr root.2.2.2.2.2.1 root.2.1).2.1).2.1).2.1 < (↑ts.length : Int)) && bif (taS ts (maS ts root.2.2.2.2.1 addr (IntKind.i64.wrap (IntKind.i64.wrap (root.2.2.2.2.2.1 - 1) - 1)) (maS ts root.2.2.2.2.1 addr (IntKind.i64.wrap (root.2.2.2.2.2.1 - 1)) (maS ts root.2.2.2.2.1 addr root.2.2.2.2.2.1 root.2.1).2.1).2.1).2.1).2.2.1 != IntKind.i64.wrap (IntKind.i64.wrap (IntKind.i64.wrap (root.2.2.2.2.2.1 - 1) - 1) - 1) then true else decide (0 ≤ ftS ts (maS ts root.2.2.2.2.1 addr (IntKind.i64.wrap (IntKind.i64.wrap (root.2.2.2.2.2.1 - 1) - 1)) (maS ts root.2.2.2.2.1 addr (IntKind.i64.wrap (root.2.2.2.2.2.1 - 1)) (maS ts root.2.2.2.2.1 addr root.2.2.2.2.2.1 root.2.1).2.1).2.1).2.1) && decide (ftS ts (maS ts root.2.2.2.2.1 addr (IntKind.i64.wrap (IntKind.i64.wrap (root.2.2.2.2.2.1 - 1) - 1)) (maS ts root.2.2.2.2.1 addr (IntKind.i64.wrap (root.2.2.2.2.2.1 - 1)) (maS ts root.2.2.2.2.1 addr root.2.2.2.2.2.1 root.2.1).2.1).2.1).2.1 < (↑ts.length : Int)) && (len40n (taS ts (maS ts root.2.2.2.2.1 addr (IntKind.i64.wrap (IntKind.i64.wrap (root.2.2.2.2.2.1 - 1) - 1)) (maS ts root.2.2.2.2.1 addr (IntKind.i64.wrap (root.2.2.2.2.2.1 - 1)) (maS ts root.2.2.2.2.1 addr root.2.2.2.2.2.1 root.2.1).2.1).2.1).2.1).2.2.2 && decide (faS ts root.2.2.2.2.1 addr (IntKind.i64.wrap (IntKind.i64.wrap (IntKind.i64.wrap (root.2.2.2.2.2.1 - 1) - 1) - 1)) (maS ts root.2.2.2.2.1 addr (IntKind.i64.wrap (IntKind.i64.wrap (root.2.2.2.2.2.1 - 1) - 1)) (maS ts root.2.2.2.2.1 addr (IntKind.i64.wrap (root.2.2.2.2.2.1 - 1)) (maS ts root.2.2.2.2.1 addr root.2.2.2.2.2.1 root.2.1).2.1).2.1).2.1 < 0)) else true)) else true)) else true)) else true
theorem rwlk_auto : ∀ a : (List (SPT)) × SCp × Int, Rns (fun f => M_rwlk f a) (P_rwlk a) (F_rwlk a)
  | (ts, root, addr) => ev_step (fun f => M_rwlk_eq f _ _ _) (evx_chk (ev_bif ev_some (ev_bif ev_some (ev_bif ev_some (ev_bif ev_some (ev_bif ev_some (ev_bif (evx_chk (ev_bif ev_some (evx_chk (ev_bif ev_some (evx_chk (ev_bif ev_some (evx_chk (evx_chk (ev_bif ev_some (evx_chk (evx_chk (ev_bif (evx_chk (ev_bif ev_some (evx_chk (ev_bif ev_some (evx_chk (ev_bif ev_some (evx_chk (evx_chk (ev_bif ev_some (evx_chk (evx_chk (ev_bif (evx_chk (ev_bif ev_some (evx_chk (ev_bif ev_some (evx_chk (ev_bif ev_some (evx_chk (evx_chk (ev_bif ev_some (evx_chk (evx_chk (ev_bif (evx_chk (ev_bif ev_some (evx_chk (ev_bif ev_some (evx_chk (ev_bif ev_some (evx_chk (evx_chk (evx_chk1 ev_some))))))))) ev_some)))))))))))) ev_some)))))))))))) ev_some)))))))))))) ev_some)))))))
end Go.AL
/-
  Layer 16: Walk: what both compute. By an AI agent.
-/
namespace Go.AL
open Go.Proofs
set_option linter.unusedVariables false
set_option linter.unusedSimpArgs false
def z13 : STr × Int := ((0, 0, 0, 0, [], []), 13)
def wkF (ts : List SPT) (w addr lv b : Int) (k : STr × Int) : STr × Int :=
  bif !decide (ftS ts b ≥ 0) then z13 else bif (taS ts b).2.1 != w then z13 else bif (taS ts b).2.2.1 != lv then z13 else bif !decide (faS ts w addr lv b ≥ 0) then z13 else k
def wkR (ts : List SPT) (w addr lv b : Int) (k : STr × Int) : STr × Int :=
  bif decide (ftS ts b < 0) then z13 else bif (taS ts b).2.1 != w then z13 else bif (taS ts b).2.2.1 != lv then z13 else bif decide (faS ts w addr lv b < 0) then z13 else k
theorem ge_lt0 (x : Int) : (!decide (x ≥ 0)) = decide (x < 0) := by
  by_cases h : x < 0
  · rw [decide_eq_true h, decide_eq_false (by omega)]; rfl
  · rw [decide_eq_false h, decide_eq_true (by omega)]; rfl
theorem wkF_R {ts : List SPT} {w addr lv b : Int} {k : STr × Int} : wkF ts w addr lv b k = wkR ts w addr lv b k := by
  simp only [wkF, wkR, ge_lt0]
def wkP (ts : List SPT) (w addr lv b : Int) (q : Bool) : Bool :=
  len40n ts && bif decide (ftS ts b < 0) then true else decide (0 ≤ ftS ts b) && decide (ftS ts b < (↑ts.length : Int)) && bif (taS ts b).2.1 != w then true else decide (0 ≤ ftS ts b) && decide (ftS ts b < (↑ts.length : Int)) && bif (taS ts b).2.2.1 != lv then true else decide (0 ≤ ftS ts b) && decide (ftS ts b < (↑ts.length : Int)) && (len40n (taS ts b).2.2.2 && bif decide (faS ts w addr lv b < 0) then true else decide (0 ≤ ftS ts b) && decide (ftS ts b < (↑ts.length : Int)) && (decide (0 ≤ faS ts w addr lv b) && decide (faS ts w addr lv b < (↑(List.length (taS ts b).2.2.2) : Int)) && q))
theorem fmS_lt (l : List SMp) (b : Int) : fmS l b < l.length := by have := findI_lt (fun t : SMp => decide (t.1 = b)) l 0 (by omega); unfold fmS; omega
theorem wkP_ok {ts : List SPT} (h : okM ts = true) {w addr lv b : Int} {q : Bool} (hq : q = true) : wkP ts w addr lv b q = true := by
  subst hq
  unfold wkP
  rw [show len40n ts = true from decide_eq_true (okM_len h), Bool.true_and]
  by_cases hf : ftS ts b < 0
  · rw [decide_eq_true hf]; rfl
  · have hr := ft_range hf
    have hm : len40n (taS ts b).2.2.2 = true := okM_mem h (ft_getD hf)
    have hl := fmS_lt (taS ts b).2.2.2 (ixS (w, lv, addr))
    rw [decide_eq_false hf, decide_eq_true hr.1, decide_eq_true hr.2, hm]
    simp only [cond_false, Bool.true_and, Bool.and_true, Bool.and_self]
    cases (taS ts b).2.1 != w
    · cases (taS ts b).2.2.1 != lv
      · simp only [cond_false]
        by_cases hg : faS ts w addr lv b < 0
        · rw [decide_eq_true hg]; rfl
        · rw [decide_eq_false hg, decide_eq_true (show 0 ≤ faS ts w addr lv b by omega), decide_eq_true (show faS ts w addr lv b < ((List.length (taS ts b).2.2.2 : Nat) : Int) from hl)]; rfl
      · rfl
    · rfl
def outS (r : Int) (p : Int) (m : SMp) (ids : List SId) (tabs : List Int) : STr × Int := ((r, p, m.2.1, m.2.2.1, ids, tabs), 0)
def wkS (ts : List SPT) (w addr : Int) : Nat → Int → Int → STr → STr × Int
  | 0, _, _, out => (out, 0)
  | n + 1, lv, b, out => wkR ts w addr lv b (wkS ts w addr n (lv - 1) (maS ts w addr lv b).2.1 (out.1, out.2.1, (maS ts w addr lv b).2.1, (maS ts w addr lv b).2.2.1, out.2.2.2.2.1 ++ [(maS ts w addr lv b).2.2.2], out.2.2.2.2.2 ++ [b]))
def wlkS (a : List SPT × SCp × Int) : STr × Int :=
  bif !tabsB a.1 then ((0, 0, 0, 0, [], []), 1) else bif !vcapB a.2.1 then ((0, 0, 0, 0, [], []), 5) else bif a.2.1.1 != 3 then ((0, 0, 0, 0, [], []), 5) else
  bif a.2.1.2.2.2.2.2.1 != (geoS a.2.1.2.2.2.2.1).1 - 1 then ((0, 0, 0, 0, [], []), 5) else bif !vaS (a.2.1.2.2.2.2.1, a.2.2) then ((0, 0, 0, 0, [], []), 6) else
  wkS a.1 a.2.1.2.2.2.2.1 a.2.2 (geoS a.2.1.2.2.2.2.1).1.toNat a.2.1.2.2.2.2.2.1 a.2.1.2.1 (a.2.1.2.1, a.2.2 / 4096, 0, 0, [], [])
theorem geo_3 (w : Int) : (geoS w).2.2.2 = true → (geoS w).1 = 2 ∨ (geoS w).1 = 3 := by
  intro h
  rcases geo_w h with rfl | rfl
  · exact .inl rfl
  · exact .inr rfl
theorem va_range {w a : Int} (h : vaS (w, a) = true) : (geoS w).2.2.2 = true ∧ 0 ≤ a ∧ a < 549755813888 := by
  obtain ⟨h1, h2⟩ := Bool.and_eq_true_iff.1 h
  obtain ⟨h2, h3⟩ := Bool.and_eq_true_iff.1 h2
  have h3 := of_decide_eq_true h3
  have h2 := of_decide_eq_true h2
  refine ⟨h1, h2, ?_⟩
  simp only at h3
  cases hd : decide (w = 32) <;> rw [hd] at h3 <;> simp only [cond_true, cond_false] at h3 <;> omega
theorem pg_s (a : Int) : a.fdiv (2 ^ min (Int.toNat 12) IntKind.i64.bits) = a / 4096 := Int.fdiv_eq_ediv_of_nonneg _ (by decide)
theorem pg_t {a : Int} (h : 0 ≤ a) (h2 : a < 549755813888) : IntKind.i64.wrap (a.tdiv 4096) = a / 4096 := by
  rw [Int.tdiv_eq_ediv_of_nonneg h]
  exact i64_id (by omega) (by omega)
theorem geoW (w : Int) : IntKind.i64.wrap ((geoS w).1 - 1) = (geoS w).1 - 1 := by
  unfold geoS
  cases decide (w = 32) <;> cases decide (w = 39) <;> rfl
section
variable (ts : List SPT) (root : SCp) (addr : Int)
theorem F_wlk_eq : F_wlk (ts, root, addr) = bif !tabsB ts then ((0, 0, 0, 0, [], []), 1) else bif !vcapB root then ((0, 0, 0, 0, [], []), 5) else bif root.1 != 3 then ((0, 0, 0, 0, [], []), 5) else bif root.2.2.2.2.2.1 != IntKind.i64.wrap ((geoS root.2.2.2.2.1).1 - 1) then ((0, 0, 0, 0, [], []), 5) else bif !vaS (root.2.2.2.2.1, addr) then ((0, 0, 0, 0, [], []), 6) else
    let p := addr.fdiv (2 ^ min (Int.toNat 12) IntKind.i64.bits)
    let w := root.2.2.2.2.1
    let l1 := root.2.2.2.2.2.1
    let l2 := IntKind.i64.wrap (l1 - 1)
    let l3 := IntKind.i64.wrap (l2 - 1)
    let l4 := IntKind.i64.wrap (l3 - 1)
    let b1 := root.2.1
    let m1 := maS ts w addr l1 b1
    let m2 := maS ts w addr l2 m1.2.1
    let m3 := maS ts w addr l3 m2.2.1
    bif decide (l1 ≥ 0) then wkF ts w addr l1 b1 (bif decide (l2 ≥ 0) then wkF ts w addr l2 m1.2.1 (bif decide (l3 ≥ 0) then wkF ts w addr l3 m2.2.1 (bif decide (l4 ≥ 0) then
        (bif !decide (ftS ts m3.2.1 ≥ 0) then z13 else bif (taS ts m3.2.1).2.1 != w then z13 else bif (taS ts m3.2.1).2.2.1 != l4 then z13 else z13)
      else ((b1, p, m3.2.1, m3.2.2.1, [m1.2.2.2] ++ [m2.2.2.2] ++ [m3.2.2.2], [b1] ++ [m1.2.1] ++ [m2.2.1]), 0)) else ((b1, p, m2.2.1, m2.2.2.1, [m1.2.2.2] ++ [m2.2.2.2], [b1] ++ [m1.2.1]), 0)) else ((b1, p, m1.2.1, m1.2.2.1, [m1.2.2.2], [b1]), 0)) else ((b1, p, 0, 0, [], []), 0) := rfl
theorem F_rwlk_eq : F_rwlk (ts, root, addr) = bif !tabsB ts then ((0, 0, 0, 0, [], []), 1) else bif !vcapB root then ((0, 0, 0, 0, [], []), 5) else bif root.1 != 3 then ((0, 0, 0, 0, [], []), 5) else bif root.2.2.2.2.2.1 != IntKind.i64.wrap ((geoS root.2.2.2.2.1).1 - 1) then ((0, 0, 0, 0, [], []), 5) else bif !vaS (root.2.2.2.2.1, addr) then ((0, 0, 0, 0, [], []), 6) else
    let p := IntKind.i64.wrap (addr.tdiv 4096)
    let w := root.2.2.2.2.1
    let l1 := root.2.2.2.2.2.1
    let l2 := IntKind.i64.wrap (l1 - 1)
    let l3 := IntKind.i64.wrap (l2 - 1)
    let l4 := IntKind.i64.wrap (l3 - 1)
    let b1 := root.2.1
    let m1 := maS ts w addr l1 b1
    let m2 := maS ts w addr l2 m1.2.1
    let m3 := maS ts w addr l3 m2.2.1
    bif decide (l1 ≥ 0) then wkR ts w addr l1 b1 (bif decide (l2 ≥ 0) then wkR ts w addr l2 m1.2.1 (bif decide (l3 ≥ 0) then wkR ts w addr l3 m2.2.1 (bif decide (l4 ≥ 0) then
        (bif decide (ftS ts m3.2.1 < 0) then z13 else bif (taS ts m3.2.1).2.1 != w then z13 else bif (taS ts m3.2.1).2.2.1 != l4 then z13 else z13)
      else ((b1, p, m3.2.1, m3.2.2.1, [] ++ [m1.2.2.2] ++ [m2.2.2.2] ++ [m3.2.2.2], [] ++ [b1] ++ [m1.2.1] ++ [m2.2.1]), 0)) else ((b1, p, m2.2.1, m2.2.2.1, [] ++ [m1.2.2.2] ++ [m2.2.2.2], [] ++ [b1] ++ [m1.2.1]), 0)) else ((b1, p, m1.2.1, m1.2.2.1, [] ++ [m1.2.2.2], [] ++ [b1]), 0)) else ((b1, p, 0, 0, [], []), 0) := rfl
end
theorem P_rwlk_eq (ts : List SPT) (root : SCp) (addr : Int) : P_rwlk (ts, root, addr) = (okM ts && bif !tabsB ts then true else bif !vcapB root then true else bif root.1 != 3 then true else bif root.2.2.2.2.2.1 != IntKind.i64.wrap ((geoS root.2.2.2.2.1).1 - 1) then true else bif !vaS (root.2.2.2.2.1, addr) then true else
    let w := root.2.2.2.2.1
    let l1 := root.2.2.2.2.2.1
    let l2 := IntKind.i64.wrap (l1 - 1)
    let l3 := IntKind.i64.wrap (l2 - 1)
    let l4 := IntKind.i64.wrap (l3 - 1)
    let b1 := root.2.1
    let m1 := maS ts w addr l1 b1
    let m2 := maS ts w addr l2 m1.2.1
    let m3 := maS ts w addr l3 m2.2.1
    bif decide (l1 ≥ 0) then wkP ts w addr l1 b1 (bif decide (l2 ≥ 0) then wkP ts w addr l2 m1.2.1 (bif decide (l3 ≥ 0) then wkP ts w addr l3 m2.2.1 (bif decide (l4 ≥ 0) then
       len40n ts && bif decide (ftS ts m3.2.1 < 0) then true else decide (0 ≤ ftS ts m3.2.1) && decide (ftS ts m3.2.1 < (↑ts.length : Int)) && bif (taS ts m3.2.1).2.1 != w then true else decide (0 ≤ ftS ts m3.2.1) && decide (ftS ts m3.2.1 < (↑ts.length : Int)) && bif (taS ts m3.2.1).2.2.1 != l4 then true else decide (0 ≤ ftS ts m3.2.1) && decide (ftS ts m3.2.1 < (↑ts.length : Int)) && (len40n (taS ts m3.2.1).2.2.2 && decide (faS ts w addr l4 m3.2.1 < 0))
      else true) else true) else true) else true) := rfl
theorem P_wlk_eq (ts : List SPT) (root : SCp) (addr : Int) : P_wlk (ts, root, addr) = P_rwlk (ts, root, addr) := by
  simp only [P_wlk, P_rwlk, ge_lt0]
theorem lv_neg {b : Int} {l : Int} (h : (l != b) = false) : l = b := by simpa using h
theorem rwlk_both : ∀ a : List SPT × SCp × Int, okM a.1 = true → P_rwlk a = true ∧ F_rwlk a = wlkS a := by
  rintro ⟨ts, root, addr⟩ h
  have h : okM ts = true := h
  rw [P_rwlk_eq, F_rwlk_eq, wlkS, h, Bool.true_and]
  simp only [geoW]
  cases hT : tabsB ts
  · exact ⟨rfl, rfl⟩
  cases hV : vcapB root
  · exact ⟨rfl, rfl⟩
  cases hK : root.1 != 3
  case true => exact ⟨rfl, rfl⟩
  cases hL : root.2.2.2.2.2.1 != (geoS root.2.2.2.2.1).1 - 1
  case true => exact ⟨rfl, rfl⟩
  cases hA : vaS (root.2.2.2.2.1, addr)
  · exact ⟨rfl, rfl⟩
  obtain ⟨hg, ha, hb⟩ := va_range hA
  have hL := lv_neg hL
  simp only [Bool.not_true, cond_false, pg_t ha hb]
  rw [hL]
  rcases geo_3 _ hg with g | g
  · rw [g]
    exact ⟨wkP_ok h (wkP_ok h rfl), rfl⟩
  · rw [g]
    exact ⟨wkP_ok h (wkP_ok h (wkP_ok h rfl)), rfl⟩
theorem F_wlk_r : ∀ a : List SPT × SCp × Int, okM a.1 = true → F_wlk a = F_rwlk a := by
  rintro ⟨ts, root, addr⟩ h
  rw [F_wlk_eq, F_rwlk_eq]
  simp only [geoW, wkF_R, ge_lt0, pg_s, List.nil_append]
  cases hA : vaS (root.2.2.2.2.1, addr)
  · rfl
  obtain ⟨hg, ha, hb⟩ := va_range hA
  simp only [pg_t ha hb]
theorem wlk_both : ∀ a : List SPT × SCp × Int, okM a.1 = true → P_wlk a = true ∧ F_wlk a = wlkS a := fun a h => by
  rw [F_wlk_r a h]
  obtain ⟨ts, root, addr⟩ := a
  rw [P_wlk_eq]
  exact rwlk_both _ h
theorem wlk_P : ∀ a : List SPT × SCp × Int, (fun a : List SPT × SCp × Int => okM a.1) a = true → P_wlk a = true := fun a h => (wlk_both a h).1
theorem wlk_F : ∀ a : List SPT × SCp × Int, (fun a : List SPT × SCp × Int => okM a.1) a = true → F_wlk a = wlkS a := fun a h => (wlk_both a h).2
theorem rwlk_P : ∀ a : List SPT × SCp × Int, (fun a : List SPT × SCp × Int => okM a.1) a = true → P_rwlk a = true := fun a h => (rwlk_both a h).1
theorem rwlk_F : ∀ a : List SPT × SCp × Int, (fun a : List SPT × SCp × Int => okM a.1) a = true → F_rwlk a = wlkS a := fun a h => (rwlk_both a h).2
theorem wlk_run : ∀ a, (fun a => okM a.1 : (List (SPT)) × SCp × Int → Bool) a = true → ∃ f, M_wlk f a = some ((wlkS : (List (SPT)) × SCp × Int → STr × Int) a) := fun a h => by have h1 := wlk_auto a (wlk_P a h); rw [wlk_F a h] at h1; exact h1
noncomputable def E_wlk : Ent := ⟨21, [.rd tSPT, .g tSCp, .c (.int .i64)], [.g tSTr, .v (.int .i64)], fun a => (fun a => okM a.1 : (List (SPT)) × SCp × Int → Bool) a, fun a => (wlkS : (List (SPT)) × SCp × Int → STr × Int) a⟩
theorem E_wlk_ok : E_wlk.Ok Try.prog := fun a hp vs hv => (wlk_run a hp).elim fun f h => fnX_ok (C := C_wlk) (Lt := Lt_wlk) (fn := Try.f21) (rs := [.cell 6 45, .tmp 7]) [.rd tSPT, .g tSCp, .c (.int .i64)] [.g tSTr, .v (.int .i64)] mixed es_wlk Try.func21 rfl rfl rfl (by kernel_rfl) (by kernel_rfl) f h vs hv
theorem rwlk_run : ∀ a, (fun a => okM a.1 : (List (SPT)) × SCp × Int → Bool) a = true → ∃ f, M_rwlk f a = some ((wlkS : (List (SPT)) × SCp × Int → STr × Int) a) := fun a h => by have h1 := rwlk_auto a (rwlk_P a h); rw [rwlk_F a h] at h1; exact h1
noncomputable def E_rwlk : Ent := ⟨51, [.rd tSPT, .g tSCp, .c (.int .i64)], [.g tSTr, .v (.int .i64)], fun a => (fun a => okM a.1 : (List (SPT)) × SCp × Int → Bool) a, fun a => (wlkS : (List (SPT)) × SCp × Int → STr × Int) a⟩
theorem E_rwlk_ok : E_rwlk.Ok Try.prog := fun a hp vs hv => (rwlk_run a hp).elim fun f h => fnX_ok (C := C_rwlk) (Lt := Lt_rwlk) (fn := Try.f51) (rs := [.cell 6 45, .tmp 7]) [.rd tSPT, .g tSCp, .c (.int .i64)] [.g tSTr, .v (.int .i64)] mixed es_rwlk Try.func51 rfl rfl rfl (by kernel_rfl) (by kernel_rfl) f h vs hv
end Go.AL
/-
  Layer 16: walks, Sync and caches: models. By an AI agent.
-/
namespace Go.AL
open Go.Proofs
set_option linter.unusedVariables false
set_option linter.unusedSimpArgs false
def okL (l : List STr) : Bool := len36n l && l.all trPre
theorem okL_len {l : List STr} (h : okL l = true) : l.length ≤ 68719476736 := of_decide_eq_true (Bool.and_eq_true_iff.1 h).1
theorem okL_mem {l : List STr} (h : okL l = true) {t : STr} (ht : t ∈ l) : trPre t = true := List.all_eq_true.1 (Bool.and_eq_true_iff.1 h).2 t ht
theorem tr40 {u : STr} (h : trPre u = true) : (len40n u.2.2.2.2.1 && len40n u.2.2.2.2.2) = true := by
  obtain ⟨h1, h2⟩ := Bool.and_eq_true_iff.1 h
  have h1 : u.2.2.2.2.1.length ≤ 68719476736 := of_decide_eq_true h1
  have h2 : u.2.2.2.2.2.length ≤ 68719476736 := of_decide_eq_true h2
  rw [Bool.and_eq_true]
  exact ⟨decide_eq_true (by omega), decide_eq_true (by omega)⟩
def keepF (t u : STr) : Bool := bif u.1 != t.1 then true else u.2.1 != t.2.1
noncomputable def C_fil1 : Cfg := ⟨Try.prog, [], pmT [], 16, [], []⟩
theorem es_fil1 : EsOk Try.prog [] [] := es_nil
def Lt_fil1 : Nat → LD := ldT []
noncomputable def M_fil1 (f : Nat) (a : STr × STr) : Option (Bool) := (runX (C_fil1) Lt_fil1 (Kret Try.prog [.tmp 3] [.v (.bool)]) f [.code (bodyOf Try.f72)] (initX [.g tSTr, .cp tSTr] a) : Option (ResT [.v (.bool)]))
theorem M_fil1_eq (f : Nat) (u : STr) (t : STr) : M_fil1 (f + 1) (u, t) =
    bif u.1 != t.1 then some true else some (u.2.1 != t.2.1) := by kernel_rfl
noncomputable def F_fil1 : (STr × STr) → Bool
  | (u, t) => bif u.1 != t.1 then true else u.2.1 != t.2.1
noncomputable def P_fil1 : (STr × STr) → Bool
  | (u, t) => true
theorem fil1_auto : ∀ a : STr × STr, Rns (fun f => M_fil1 f a) (P_fil1 a) (F_fil1 a)
  | (u, t) => ev_step (fun f => M_fil1_eq f _ _) (ev_bift ev_some ev_some)
theorem fil1_P : ∀ a : STr × STr, (fun _ => true) a = true → P_fil1 a = true := fun a h => rfl
theorem fil1_F : ∀ a : STr × STr, (fun _ => true) a = true → F_fil1 a = (fun a : STr × STr => keepF a.2 a.1) a := fun a h => rfl
theorem fil1_run : ∀ a, (fun _ => true : STr × STr → Bool) a = true → ∃ f, M_fil1 f a = some ((fun a => keepF a.2 a.1 : STr × STr → Bool) a) := fun a h => by have h1 := fil1_auto a (fil1_P a h); rw [fil1_F a h] at h1; exact h1
noncomputable def E_fil1 : Ent := ⟨72, [.g tSTr, .cp tSTr], [.v (.bool)], fun a => (fun _ => true : STr × STr → Bool) a, fun a => (fun a => keepF a.2 a.1 : STr × STr → Bool) a⟩
theorem E_fil1_ok : E_fil1.Ok Try.prog := fun a hp vs hv => (fil1_run a hp).elim fun f h => fnX_ok (C := C_fil1) (Lt := Lt_fil1) (fn := Try.f72) (rs := [.tmp 3]) [.g tSTr, .cp tSTr] [.v (.bool)] mixed es_fil1 Try.func72 rfl rfl rfl (by kernel_rfl) (by kernel_rfl) f h vs hv
noncomputable def C_flf : Cfg := ⟨Try.prog, [E_ctr, E_fil1], pmT [], 24, [], []⟩
theorem es_flf : EsOk Try.prog [E_ctr, E_fil1] [] := es_cons E_ctr_ok (es_cons E_fil1_ok (es_nil))
def Lt_flf : Nat → LD := ldT [(0, ⟨[.fn 1 72 [tSTr], .list 5 999 45 6 tSTr, .rd 8 tSTr, .c 9 (.int .i64), .c 10 (.int .i64)], []⟩)]
noncomputable def M_flf (f : Nat) (a : (List (STr)) × STr) : Option ((List (STr))) := (runX (C_flf) Lt_flf (Kret Try.prog [.tmp 4] [.o 45 6 tSTr]) f [.code (bodyOf Try.f71)] (initX [.rd tSTr, .fn 72 [tSTr]] a) : Option (ResT [.o 45 6 tSTr]))
noncomputable def L_flf_0 (f : Nat) (x : STr × (List (STr)) × (List (STr)) × Int × Int) : Option ((List (STr))) := (runX (C_flf) Lt_flf (Kret Try.prog [.tmp 4] [.o 45 6 tSTr]) f (headOf Try.f71 0) ((Lt_flf 0).mk' x) : Option (ResT [.o 45 6 tSTr]))
theorem M_flf_eq (f : Nat) (tlb : List (STr)) (keep : STr) : M_flf (f + 1) (tlb, keep) =
    L_flf_0 f (keep, [], tlb, (↑tlb.length : Int), 0) := by kernel_rfl
theorem L_flf_0_eq (f : Nat) (keep : STr) (out : List (STr)) (x8 : List (STr)) (x9 : Int) (x10 : Int) : L_flf_0 (f + 1) (keep, out, x8, x9, x10) =
    bif decide (x10 < x9) then bif decide (0 ≤ x10) && decide (x10 < (↑x8.length : Int)) then bif keepF keep (x8.getD x10.toNat (0, 0, 0, 0, [], [])) then bif len40n (x8.getD x10.toNat (0, 0, 0, 0, [], [])).2.2.2.2.1 && len40n (x8.getD x10.toNat (0, 0, 0, 0, [], [])).2.2.2.2.2 then bif decide ((out.length + [x8.getD x10.toNat (0, 0, 0, 0, [], [])].length) * 80 ≤ 140737488355328) then L_flf_0 f (keep, out ++ [x8.getD x10.toNat (0, 0, 0, 0, [], [])], x8, x9, IntKind.i64.wrap (x10 + 1)) else none else none else L_flf_0 f (keep, out, x8, x9, IntKind.i64.wrap (x10 + 1)) else none else some out := by kernel_rfl
noncomputable def F_flf_0 : List (STr) → (STr × (List (STr)) × (List (STr)) × Int × Nat) → (List (STr))
  | [], (keep, out, x8, x9, x10) => out
  | uu :: rest, (keep, out, x8, x9, x10) => bif keepF keep uu then F_flf_0 rest (keep, out ++ [uu], x8, x9, x10 + 1) else F_flf_0 rest (keep, out, x8, x9, x10 + 1)
noncomputable def P_flf_0 : List (STr) → (STr × (List (STr)) × (List (STr)) × Int × Nat) → Bool
  | [], (keep, out, x8, x9, x10) => true
  | uu :: rest, (keep, out, x8, x9, x10) => bif keepF keep uu then len40n uu.2.2.2.2.1 && len40n uu.2.2.2.2.2 && (decide ((out.length + [uu].length) * 80 ≤ 140737488355328) && P_flf_0 rest (keep, out ++ [uu], x8, x9, x10 + 1)) else P_flf_0 rest (keep, out, x8, x9, x10 + 1)
theorem A_flf_0 : ∀ (rest : List (STr)) (keep : STr) (out : List (STr)) (x8 : List (STr)) (x9 : Int) (x10 : Nat) (hd : x8.drop x10 = rest) (hn : x9 = ((x8.length : Nat) : Int)) (hl : x8.length ≤ 1099511627776), Rns (fun f => L_flf_0 f (keep, out, x8, x9, ((x10 : Nat) : Int))) (P_flf_0 rest (keep, out, x8, x9, x10)) (F_flf_0 rest (keep, out, x8, x9, x10))
  | [], keep, out, x8, x9, x10, hd, hn, hl => ev_step (T := fun f => some out) (fun f => (L_flf_0_eq f _ _ _ _ _).trans (by simp only [ge_decn hn (drop_ge hd), ge0, Bool.and_self, Bool.true_and, cond_true, cond_false, List.length_set] <;> rfl)) ev_some
  | uu :: rest, keep, out, x8, x9, x10, hd, hn, hl => ev_step (T := fun f => bif keepF keep uu then bif len40n uu.2.2.2.2.1 && len40n uu.2.2.2.2.2 then bif decide ((out.length + [uu].length) * 80 ≤ 140737488355328) then L_flf_0 f (keep, out ++ [uu], x8, x9, (↑(x10 + 1) : Int)) else none else none else L_flf_0 f (keep, out, x8, x9, (↑(x10 + 1) : Int))) (fun f => (L_flf_0_eq f _ _ _ _ _).trans (by simp only [lt_decn hn (drop_lt hd), lt_dec (drop_lt hd), drop_get hd, wrap_succ (drop_lt hd) hl, getD_set (drop_lt hd), ge0, Bool.and_self, Bool.true_and, cond_true, cond_false, List.length_set] <;> rfl)) (ev_bif (ev_chk (ev_chk (A_flf_0 rest _ _ _ _ _ (by first | exact drop_succ hd | exact drop_set hd | exact drop_setS (drop_set hd)) (by first | exact hn | simpa using hn) (by first | exact hl | simpa using hl)))) (A_flf_0 rest _ _ _ _ _ (by first | exact drop_succ hd | exact drop_set hd | exact drop_setS (drop_set hd)) (by first | exact hn | simpa using hn) (by first | exact hl | simpa using hl)))
noncomputable def F_flf : ((List (STr)) × STr) → (List (STr))
  | (tlb, keep) => F_flf_0 tlb (keep, [], tlb, (↑tlb.length : Int), 0)
noncomputable def P_flf : ((List (STr)) × STr) → Bool
  | (tlb, keep) => decide (tlb.length ≤ 1099511627776) && P_flf_0 tlb (keep, [], tlb, (↑tlb.length : Int), 0)
theorem flf_auto : ∀ a : (List (STr)) × STr, Rns (fun f => M_flf f a) (P_flf a) (F_flf a)
  | (tlb, keep) => ev_step (fun f => M_flf_eq f _ _) (ev_and fun hh => A_flf_0 _ _ _ _ _ _ rfl (by first | rfl | simp) (of_decide_eq_true hh))
theorem flf_0 (t : STr) (x8 : List STr) (x9 : Int) : ∀ (r out : List STr) (k : Nat), (∀ e ∈ r, trPre e = true) → out.length + r.length ≤ 68719476736 → F_flf_0 r (t, out, x8, x9, k) = out ++ r.filter (keepF t) ∧ P_flf_0 r (t, out, x8, x9, k) = true
  | [], out, k, h, hl => ⟨by simp [F_flf_0], rfl⟩
  | u :: r, out, k, h, hl => by
    simp only [List.length_cons] at hl
    have hu := tr40 (h u (List.mem_cons_self ..))
    obtain ⟨i1, i2⟩ := flf_0 t x8 x9 r (out ++ [u]) (k + 1) (fun e he => h e (List.mem_cons_of_mem _ he)) (by simp; omega)
    obtain ⟨j1, j2⟩ := flf_0 t x8 x9 r out (k + 1) (fun e he => h e (List.mem_cons_of_mem _ he)) (by omega)
    simp only [F_flf_0, P_flf_0, i1, i2, j1, j2, hu, Bool.true_and, List.filter_cons]
    cases hk : keepF t u
    · exact ⟨rfl, rfl⟩
    · simp only [cond_true, if_true, List.append_assoc, List.singleton_append, Bool.and_true, decide_eq_true_eq, true_and]
      simp only [List.length_singleton]; omega
theorem flf_P : ∀ a : List STr × STr, (fun a : List STr × STr => okL a.1) a = true → P_flf a = true := fun a h => by
  have h : okL a.1 = true := h
  simp only [P_flf, (flf_0 a.2 _ _ a.1 [] 0 (fun e he => okL_mem h he) (by simpa using okL_len h)).2, Bool.and_true]
  exact decide_eq_true (by have := okL_len h; omega)
theorem flf_F : ∀ a : List STr × STr, (fun a : List STr × STr => okL a.1) a = true → F_flf a = (fun a : List STr × STr => a.1.filter (keepF a.2)) a := fun a h => by
  have h : okL a.1 = true := h
  simp only [F_flf, (flf_0 a.2 _ _ a.1 [] 0 (fun e he => okL_mem h he) (by simpa using okL_len h)).1, List.nil_append]
theorem flf_run : ∀ a, (fun a => okL a.1 : (List (STr)) × STr → Bool) a = true → ∃ f, M_flf f a = some ((fun a => a.1.filter (keepF a.2) : (List (STr)) × STr → (List (STr))) a) := fun a h => by have h1 := flf_auto a (flf_P a h); rw [flf_F a h] at h1; exact h1
noncomputable def E_flf : Ent := ⟨71, [.rd tSTr, .fn 72 [tSTr]], [.o 45 6 tSTr], fun a => (fun a => okL a.1 : (List (STr)) × STr → Bool) a, fun a => (fun a => a.1.filter (keepF a.2) : (List (STr)) × STr → (List (STr))) a⟩
theorem E_flf_ok : E_flf.Ok Try.prog := fun a hp vs hv => (flf_run a hp).elim fun f h => fnX_ok (C := C_flf) (Lt := Lt_flf) (fn := Try.f71) (rs := [.tmp 4]) [.rd tSTr, .fn 72 [tSTr]] [.o 45 6 tSTr] mixed es_flf Try.func71 rfl rfl rfl (by kernel_rfl) (by kernel_rfl) f h vs hv
noncomputable def C_vfil : Cfg := ⟨Try.prog, [E_flf, E_ctr], pmT [], 20, [], [(13, tSTr)]⟩
theorem es_vfil : EsOk Try.prog [E_flf, E_ctr] [] := es_cons E_flf_ok (es_cons E_ctr_ok (es_nil))
def Lt_vfil : Nat → LD := ldT []
noncomputable def M_vfil (f : Nat) (a : (List (STr)) × STr) : Option ((List (STr))) := (runX (C_vfil) Lt_vfil (Kret Try.prog [.tmp 4] [.v (.sl tSTr)]) f [.code (bodyOf Try.f41)] (initX [.rd tSTr, .g tSTr] a) : Option (ResT [.v (.sl tSTr)]))
theorem M_vfil_eq (f : Nat) (tlb : List (STr)) (t : STr) : M_vfil (f + 1) (tlb, t) =
    bif okL tlb then bif len40n t.2.2.2.2.1 && len40n t.2.2.2.2.2 then bif decide (((List.filter (keepF t) tlb).length + [t].length) * 80 ≤ 140737488355328) then bif decide (0 ≤ if IntKind.i64.wrap ((↑(List.filter (keepF t) tlb ++ [t]).length : Int) - 8) > 0 then IntKind.i64.wrap ((↑(List.filter (keepF t) tlb ++ [t]).length : Int) - 8) else 0) && decide ((if IntKind.i64.wrap ((↑(List.filter (keepF t) tlb ++ [t]).length : Int) - 8) > 0 then IntKind.i64.wrap ((↑(List.filter (keepF t) tlb ++ [t]).length : Int) - 8) else 0) ≤ (↑(List.filter (keepF t) tlb ++ [t]).length : Int)) then some (List.drop (if IntKind.i64.wrap ((↑(List.filter (keepF t) tlb ++ [t]).length : Int) - 8) > 0 then IntKind.i64.wrap ((↑(List.filter (keepF t) tlb ++ [t]).length : Int) - 8) else 0).toNat (List.filter (keepF t) tlb ++ [t])) else none else none else none else none := by kernel_rfl
noncomputable def F_vfil : ((List (STr)) × STr) → (List (STr))
  | (tlb, t) => List.drop (if IntKind.i64.wrap ((↑(List.filter (keepF t) tlb ++ [t]).length : Int) - 8) > 0 then IntKind.i64.wrap ((↑(List.filter (keepF t) tlb ++ [t]).length : Int) - 8) else 0).toNat (List.filter (keepF t) tlb ++ [t])
noncomputable def P_vfil : ((List (STr)) × STr) → Bool
  | (tlb, t) => okL tlb && (len40n t.2.2.2.2.1 && len40n t.2.2.2.2.2 && (decide (((List.filter (keepF t) tlb).length + [t].length) * 80 ≤ 140737488355328) && (decide (0 ≤ if IntKind.i64.wrap ((↑(List.filter (keepF t) tlb ++ [t]).length : Int) - 8) > 0 then IntKind.i64.wrap ((↑(List.filter (keepF t) tlb ++ [t]).length : Int) - 8) else 0) && decide ((if IntKind.i64.wrap ((↑(List.filter (keepF t) tlb ++ [t]).length : Int) - 8) > 0 then IntKind.i64.wrap ((↑(List.filter (keepF t) tlb ++ [t]).length : Int) - 8) else 0) ≤ (↑(List.filter (keepF t) tlb ++ [t]).length : Int)))))
theorem vfil_auto : ∀ a : (List (STr)) × STr, Rns (fun f => M_vfil f a) (P_vfil a) (F_vfil a)
  | (tlb, t) => ev_step (fun f => M_vfil_eq f _ _) (ev_chk (ev_chk (ev_chk (ev_chk1 ev_some))))
def cutL (l : List STr) : List STr := l.drop (l.length - 8)
def filS (a : List STr × STr) : List STr := cutL (a.1.filter (keepF a.2) ++ [a.2])
def filPre (a : List STr × STr) : Bool := okL a.1 && trPre a.2
theorem cut_n (n : Nat) (h : n ≤ 68719476737) : IntKind.i64.wrap (((n : Nat) : Int) - 8) = (n : Int) - 8 := i64_id (by omega) (by omega)
theorem fil_len {a : List STr × STr} (h : okL a.1 = true) : (a.1.filter (keepF a.2) ++ [a.2]).length ≤ 68719476737 := by
  have := okL_len h
  have := List.length_filter_le (keepF a.2) a.1
  rw [List.length_append, List.length_singleton]; omega
theorem cut_d {l : List STr} : (if ((l.length : Nat) : Int) - 8 > 0 then ((l.length : Nat) : Int) - 8 else 0).toNat = l.length - 8 := by
  split <;> omega
theorem vfil_P : ∀ a : List STr × STr, filPre a = true → P_vfil a = true := fun a h => by
  obtain ⟨h1, h2⟩ := Bool.and_eq_true_iff.1 h
  have hl := okL_len h1
  have hf := List.length_filter_le (keepF a.2) a.1
  simp only [P_vfil, h1, tr40 h2, cut_n _ (fil_len h1), Bool.true_and, Bool.and_eq_true, decide_eq_true_eq, List.length_singleton]
  refine ⟨by omega, ?_, ?_⟩ <;> split <;> omega
theorem vfil_F : ∀ a : List STr × STr, filPre a = true → F_vfil a = filS a := fun a h => by
  obtain ⟨h1, h2⟩ := Bool.and_eq_true_iff.1 h
  simp only [F_vfil, cut_n _ (fil_len h1), cut_d]
  rfl
theorem vfil_run : ∀ a, (filPre : (List (STr)) × STr → Bool) a = true → ∃ f, M_vfil f a = some ((filS : (List (STr)) × STr → (List (STr))) a) := fun a h => by have h1 := vfil_auto a (vfil_P a h); rw [vfil_F a h] at h1; exact h1
noncomputable def E_vfil : Ent := ⟨41, [.rd tSTr, .g tSTr], [.v (.sl tSTr)], fun a => (filPre : (List (STr)) × STr → Bool) a, fun a => (filS : (List (STr)) × STr → (List (STr))) a⟩
theorem E_vfil_ok : E_vfil.Ok Try.prog := fun a hp vs hv => (vfil_run a hp).elim fun f h => fnX_ok (C := C_vfil) (Lt := Lt_vfil) (fn := Try.f41) (rs := [.tmp 4]) [.rd tSTr, .g tSTr] [.v (.sl tSTr)] mixed es_vfil Try.func41 rfl rfl rfl (by kernel_rfl) (by kernel_rfl) f h vs hv
end Go.AL
/-
  Layer 16: what the laws share; awake holds. By an AI agent.
-/
namespace Go.AL
open Go.Proofs
set_option linter.unusedVariables false
set_option linter.unusedSimpArgs false
def tcapS (n : Int) : SCp := [((3, 4096, 12, 7, 32, 1, false) : SCp), (3, 8192, 12, 7, 32, 0, false), (3, 12288, 12, 7, 32, 0, false), (3, 16384, 12, 7, 32, 1, false)].getD (place (n, 4)).toNat (0, 0, 0, 0, 0, 0, false)
theorem place_r (n k : Int) (hk : 0 < k) : 0 ≤ place (n, k) ∧ place (n, k) < k := by
  simp only [place]
  rw [decide_eq_false (by omega), cond_false]
  exact ⟨Int.emod_nonneg _ (by omega), Int.emod_lt_of_pos _ hk⟩
noncomputable def C_tcap : Cfg := ⟨Try.prog, [E_top, E_low, E_place], pmT [], 14, [], []⟩
theorem es_tcap : EsOk Try.prog [E_top, E_low, E_place] [] := es_cons E_top_ok (es_cons E_low_ok (es_cons E_place_ok (es_nil)))
def Lt_tcap : Nat → LD := ldT []
noncomputable def M_tcap (f : Nat) (a : Int) : Option (SCp) := (runX (C_tcap) Lt_tcap (Kret Try.prog [.cell 2 25] [.g tSCp]) f [.code (bodyOf Try.f16)] (initX [.c (.int .i64)] a) : Option (ResT [.g tSCp]))
theorem M_tcap_eq (f : Nat) (n : Int) : M_tcap (f + 1) n =
    bif decide (0 ≤ place (n, 4)) && decide (place (n, 4) < (↑[(3, 4096, 12, 7, 32, 1, false), (3, 8192, 12, 7, 32, 0, false), (3, 12288, 12, 7, 32, 0, false), (3, 16384, 12, 7, 32, 1, false)].length : Int)) then some ([(3, 4096, 12, 7, 32, 1, false), (3, 8192, 12, 7, 32, 0, false), (3, 12288, 12, 7, 32, 0, false), (3, 16384, 12, 7, 32, 1, false)].getD (place (n, 4)).toNat (0, 0, 0, 0, 0, 0, false)) else none := by kernel_rfl
noncomputable def F_tcap : Int → SCp
  | n => [(3, 4096, 12, 7, 32, 1, false), (3, 8192, 12, 7, 32, 0, false), (3, 12288, 12, 7, 32, 0, false), (3, 16384, 12, 7, 32, 1, false)].getD (place (n, 4)).toNat (0, 0, 0, 0, 0, 0, false)
noncomputable def P_tcap : Int → Bool
  | n => decide (0 ≤ place (n, 4)) && decide (place (n, 4) < (↑[(3, 4096, 12, 7, 32, 1, false), (3, 8192, 12, 7, 32, 0, false), (3, 12288, 12, 7, 32, 0, false), (3, 16384, 12, 7, 32, 1, false)].length : Int))
theorem tcap_auto : ∀ a : Int, Rns (fun f => M_tcap f a) (P_tcap a) (F_tcap a)
  | n => ev_step (fun f => M_tcap_eq f _) (ev_chk1 ev_some)
theorem tcap_P : ∀ n : Int, (fun _ => true) n = true → P_tcap n = true := fun n _ => by
  obtain ⟨h1, h2⟩ := place_r n 4 (by omega)
  simp only [P_tcap, decide_eq_true h1, Bool.true_and, decide_eq_true_eq]
  exact h2
theorem tcap_F : ∀ n : Int, (fun _ => true) n = true → F_tcap n = tcapS n := fun n _ => rfl
theorem tcap_run : ∀ a, (fun _ => true : Int → Bool) a = true → ∃ f, M_tcap f a = some ((tcapS : Int → SCp) a) := fun a h => by have h1 := tcap_auto a (tcap_P a h); rw [tcap_F a h] at h1; exact h1
noncomputable def E_tcap : Ent := ⟨16, [.c (.int .i64)], [.g tSCp], fun a => (fun _ => true : Int → Bool) a, fun a => (tcapS : Int → SCp) a⟩
theorem E_tcap_ok : E_tcap.Ok Try.prog := fun a hp vs hv => (tcap_run a hp).elim fun f h => fnX_ok (C := C_tcap) (Lt := Lt_tcap) (fn := Try.f16) (rs := [.cell 2 25]) [.c (.int .i64)] [.g tSCp] mixed es_tcap Try.func16 rfl rfl rfl (by kernel_rfl) (by kernel_rfl) f h vs hv
def mnodS (n : Int) : SNd := bif decide (place (n, 8) < 4) then (0, place (n, 8) + 1, 0, [], tcapS (place (n, 8))) else (0, place (n, 8) + 1, 0, [], 2, place (n, 8) * 4096, 12, 3, 0, 0, false)
noncomputable def C_mnod : Cfg := ⟨Try.prog, [E_place, E_page, E_tcap], pmT [], 23, [], []⟩
theorem es_mnod : EsOk Try.prog [E_place, E_page, E_tcap] [] := es_cons E_place_ok (es_cons E_page_ok (es_cons E_tcap_ok (es_nil)))
def Lt_mnod : Nat → LD := ldT []
noncomputable def M_mnod (f : Nat) (a : Int) : Option (SNd) := (runX (C_mnod) Lt_mnod (Kret Try.prog [.cell 2 42] [.g tSNd]) f [.code (bodyOf Try.f29)] (initX [.c (.int .i64)] a) : Option (ResT [.g tSNd]))
theorem M_mnod_eq (f : Nat) (n : Int) : M_mnod (f + 1) n =
    bif decide (place (n, 8) < 4) then some (0, IntKind.i64.wrap (1 + place (n, 8)), 0, [], tcapS (place (n, 8))) else some (0, IntKind.i64.wrap (1 + place (n, 8)), 0, [], 2, IntKind.i64.wrap (place (n, 8) * 2 ^ min (Int.toNat 12) IntKind.i64.bits), 12, 3, 0, 0, false) := by kernel_rfl
noncomputable def F_mnod : Int → SNd
  | n => bif decide (place (n, 8) < 4) then (0, IntKind.i64.wrap (1 + place (n, 8)), 0, [], tcapS (place (n, 8))) else (0, IntKind.i64.wrap (1 + place (n, 8)), 0, [], 2, IntKind.i64.wrap (place (n, 8) * 2 ^ min (Int.toNat 12) IntKind.i64.bits), 12, 3, 0, 0, false)
noncomputable def P_mnod : Int → Bool
  | n => true
theorem mnod_auto : ∀ a : Int, Rns (fun f => M_mnod f a) (P_mnod a) (F_mnod a)
  | n => ev_step (fun f => M_mnod_eq f _) (ev_bift ev_some ev_some)
theorem mnod_P : ∀ n : Int, (fun _ => true) n = true → P_mnod n = true := fun n _ => rfl
theorem mnod_F : ∀ n : Int, (fun _ => true) n = true → F_mnod n = mnodS n := fun n _ => by
  obtain ⟨h1, h2⟩ := place_r n 8 (by omega)
  have e1 : IntKind.i64.wrap (1 + place (n, 8)) = place (n, 8) + 1 := by rw [i64_id (by omega) (by omega)]; omega
  have e2 : IntKind.i64.wrap (place (n, 8) * 2 ^ min (Int.toNat 12) IntKind.i64.bits) = place (n, 8) * 4096 := by
    rw [show place (n, 8) * 2 ^ min (Int.toNat 12) IntKind.i64.bits = place (n, 8) * 4096 from rfl]; exact i64_id (by omega) (by omega)
  simp only [F_mnod, mnodS, e1, e2]
theorem mnod_run : ∀ a, (fun _ => true : Int → Bool) a = true → ∃ f, M_mnod f a = some ((mnodS : Int → SNd) a) := fun a h => by have h1 := mnod_auto a (mnod_P a h); rw [mnod_F a h] at h1; exact h1
noncomputable def E_mnod : Ent := ⟨29, [.c (.int .i64)], [.g tSNd], fun a => (fun _ => true : Int → Bool) a, fun a => (mnodS : Int → SNd) a⟩
theorem E_mnod_ok : E_mnod.Ok Try.prog := fun a hp vs hv => (mnod_run a hp).elim fun f h => fnX_ok (C := C_mnod) (Lt := Lt_mnod) (fn := Try.f29) (rs := [.cell 2 42]) [.c (.int .i64)] [.g tSNd] mixed es_mnod Try.func29 rfl rfl rfl (by kernel_rfl) (by kernel_rfl) f h vs hv
noncomputable def C_awk : Cfg := ⟨Try.prog, [E_top, E_low, E_vmap, E_page, E_wlk, E_vfil], pmT [], 67, [], []⟩
theorem es_awk : EsOk Try.prog [E_top, E_low, E_vmap, E_page, E_wlk, E_vfil] [] := es_cons E_top_ok (es_cons E_low_ok (es_cons E_vmap_ok (es_cons E_page_ok (es_cons E_wlk_ok (es_cons E_vfil_ok (es_nil))))))
def Lt_awk : Nat → LD := ldT []
noncomputable def M_awk (f : Nat) (a : Unit) : Option (Bool) := (runX (C_awk) Lt_awk (Kret Try.prog [.tmp 0] [.v (.bool)]) f [.code (bodyOf Try.f12)] (initX [] a) : Option (ResT [.v (.bool)]))
theorem M_awk_eq (f : Nat)  : M_awk (f + 1) () =
    some ((↑(filS ([], (wlkS ((Go.Proofs.mapS ((Go.Proofs.mapS ([], (3, 4096, 12, 7, 32, 1, false), 0, (0, 1, 0, [], 3, 8192, 12, 7, 32, 0, false), 7)).1, (3, 8192, 12, 7, 32, 0, false), 3, (0, 2, 0, [], 2, 1048576, 12, 3, 0, 0, false), 1)).1, (3, 4096, 12, 7, 32, 1, false), 12293)).1)).length : Int) == 1) := by kernel_rfl
noncomputable def F_awk : Unit → Bool
  | () => (↑(filS ([], (wlkS ((Go.Proofs.mapS ((Go.Proofs.mapS ([], (3, 4096, 12, 7, 32, 1, false), 0, (0, 1, 0, [], 3, 8192, 12, 7, 32, 0, false), 7)).1, (3, 8192, 12, 7, 32, 0, false), 3, (0, 2, 0, [], 2, 1048576, 12, 3, 0, 0, false), 1)).1, (3, 4096, 12, 7, 32, 1, false), 12293)).1)).length : Int) == 1
noncomputable def P_awk : Unit → Bool
  | () => true
theorem awk_auto : ∀ a : Unit, Rns (fun f => M_awk f a) (P_awk a) (F_awk a)
  | () => ev_step (fun f => M_awk_eq f ) ev_some
theorem awk_t : F_awk () = true := by decide +kernel
theorem awk_P : ∀ a : Unit, (fun _ => true) a = true → P_awk a = true := fun _ _ => rfl
theorem awk_F : ∀ a : Unit, (fun _ => true) a = true → F_awk a = (fun _ => true) a := fun _ _ => awk_t
theorem awk_run : ∀ a, (fun _ => true : Unit → Bool) a = true → ∃ f, M_awk f a = some ((fun _ => true : Unit → Bool) a) := fun a h => by have h1 := awk_auto a (awk_P a h); rw [awk_F a h] at h1; exact h1
noncomputable def E_awk : Ent := ⟨12, [], [.v (.bool)], fun a => (fun _ => true : Unit → Bool) a, fun a => (fun _ => true : Unit → Bool) a⟩
theorem E_awk_ok : E_awk.Ok Try.prog := fun a hp vs hv => (awk_run a hp).elim fun f h => fnX_ok (C := C_awk) (Lt := Lt_awk) (fn := Try.f12) (rs := [.tmp 0]) [] [.v (.bool)] mixed es_awk Try.func12 rfl rfl rfl (by kernel_rfl) (by kernel_rfl) f h vs hv
def okN (n : Nat) (l : List SPT) : Bool := decide (l.length ≤ n) && l.all fun t => decide (t.2.2.2.length ≤ n)
theorem okN_len {n : Nat} {l : List SPT} (h : okN n l = true) : l.length ≤ n := of_decide_eq_true (Bool.and_eq_true_iff.1 h).1
theorem okN_mem {n : Nat} {l : List SPT} (h : okN n l = true) {t : SPT} (ht : t ∈ l) : t.2.2.2.length ≤ n := of_decide_eq_true (List.all_eq_true.1 (Bool.and_eq_true_iff.1 h).2 t ht)
theorem okN_mk {n : Nat} {l : List SPT} (h : l.length ≤ n) (h2 : ∀ t ∈ l, t.2.2.2.length ≤ n) : okN n l = true := by
  unfold okN
  rw [Bool.and_eq_true]
  exact ⟨decide_eq_true h, List.all_eq_true.2 fun t ht => decide_eq_true (h2 t ht)⟩
theorem okN_okT {n : Nat} (hn : n ≤ 68719476736) {l : List SPT} (h : okN n l = true) : okT l = true := by
  unfold okT
  rw [Bool.and_eq_true]
  exact ⟨decide_eq_true (Nat.le_trans (okN_len h) hn), List.all_eq_true.2 fun t ht => decide_eq_true (Nat.le_trans (okN_mem h ht) hn)⟩
theorem okN_le {n m : Nat} (hn : n ≤ m) {l : List SPT} (h : okN n l = true) : okN m l = true := okN_mk (Nat.le_trans (okN_len h) hn) fun t ht => Nat.le_trans (okN_mem h ht) hn
theorem bif_p {α : Type} {P : α → Prop} {c : Bool} {x y : α} (hx : P x) (hy : P y) : P (bif c then x else y) := by cases c; exact hy; exact hx
theorem bif_pn {α : Type} {P : α → Prop} {c : Bool} {x y : α} (hx : P x) (hy : c = false → P y) : P (bif c then x else y) := by cases c; exact hy rfl; exact hx
theorem few_okN {l : List SPT} (h : F_few l = true) : okN 1000000 l = true := by
  obtain ⟨h1, h2⟩ := few_ok h
  exact okN_mk (by omega) fun t ht => by have := h2 t ht; omega
end Go.AL
/-
  Layer 16: what the laws share. By an AI agent.
-/
namespace Go.AL
open Go.Proofs
set_option linter.unusedVariables false
set_option linter.unusedSimpArgs false
theorem insAt_len {α : Type} (l : List α) (k : Nat) (x : α) : (insAt l k x).length = l.length + 1 := by
  unfold insAt
  rw [List.length_append, List.length_append, List.length_take, List.length_drop, List.length_singleton]; omega
theorem insAt_mem {α : Type} {l : List α} {k : Nat} {x y : α} (h : y ∈ insAt l k x) : y = x ∨ y ∈ l := by
  unfold insAt at h
  rcases List.mem_append.1 h with h | h
  · rcases List.mem_append.1 h with h | h
    · exact .inr (List.mem_of_mem_take h)
    · exact .inl (List.mem_singleton.1 h)
  · exact .inr (List.mem_of_mem_drop h)
theorem mapS_okN {n : Nat} (a : List SPT × SCp × Int × SNd × Int) (h : okN n a.1 = true) : okN (n + 1) (mapS a).1 = true := by
  have h0 : (fun r : List SPT × Int => okN (n + 1) r.1 = true) ([], 0) := okN_mk (by simp) (by simp)
  have hl := okN_len h
  have B : ∀ {c : Bool} {x y : List SPT × Int}, okN (n + 1) x.1 = true → okN (n + 1) y.1 = true → okN (n + 1) (bif c then x else y).1 = true := fun hx hy => bif_p (P := fun r : List SPT × Int => okN (n + 1) r.1 = true) hx hy
  unfold mapS
  refine B h0 (B h0 (B h0 (B h0 (B h0 (B h0 (B h0 (B ?_ (B h0 ?_))))))))
  · refine okN_mk (by show (insAt _ _ _).length ≤ _; rw [insAt_len]; omega) fun t ht => ?_
    rcases insAt_mem ht with rfl | ht
    · show 1 ≤ n + 1; omega
    · exact Nat.le_succ_of_le (okN_mem h ht)
  · refine okN_mk (by show (List.set _ _ _).length ≤ _; rw [List.length_set]; omega) fun t ht => ?_
    rcases List.mem_or_eq_of_mem_set ht with ht | rfl
    · exact Nat.le_succ_of_le (okN_mem h ht)
    · show (insAt _ _ _).length ≤ _
      rw [insAt_len]
      have : (Ns.maps (a.1.getD (ftS a.1 a.2.1.2.1).toNat zPT)).length ≤ n := by
        by_cases hk : (ftS a.1 a.2.1.2.1).toNat < a.1.length
        · rw [List.getD_eq_getElem?_getD, List.getElem?_eq_getElem hk]
          exact okN_mem h (List.getElem_mem hk)
        · rw [List.getD_eq_getElem?_getD, List.getElem?_eq_none (by omega)]; exact Nat.zero_le _
      omega
theorem unmS_okN {n : Nat} (a : List SPT × SCp × Int) (h : okN n a.1 = true) : okN n (unmS a).1 = true := by
  have h0 : okN n ([] : List SPT) = true := okN_mk (by simp) (by simp)
  have hl := okN_len h
  have B : ∀ {c : Bool} {x y : List SPT × SId × Int}, okN n x.1 = true → okN n y.1 = true → okN n (bif c then x else y).1 = true := fun hx hy => bif_p (P := fun r : List SPT × SId × Int => okN n r.1 = true) hx hy
  have B2 : ∀ {c : Bool} {x y : List SPT × SId × Int}, okN n x.1 = true → (c = false → okN n y.1 = true) → okN n (bif c then x else y).1 = true := fun hx hy => bif_pn (P := fun r : List SPT × SId × Int => okN n r.1 = true) hx hy
  unfold unmS
  refine B h0 (B h0 (B h0 (B2 h0 fun hf => B h0 ?_)))
  have hf : ¬ ftS a.1 a.2.1.2.1 < 0 := of_decide_eq_false hf
  have hk := ft_range hf
  have ht := okN_mem h (ft_getD hf)
  unfold unmE
  refine B ?_ ?_
  · refine okN_mk ?_ fun t ht => ?_
    · show (List.take _ _ ++ List.drop _ _).length ≤ n
      rw [List.length_append, List.length_take, List.length_drop]; omega
    · rcases List.mem_append.1 ht with ht | ht
      · exact okN_mem h (List.mem_of_mem_take ht)
      · exact okN_mem h (List.mem_of_mem_drop ht)
  · refine okN_mk ?_ fun t ht => ?_
    · show (List.take _ _ ++ _ :: List.drop _ _).length ≤ n
      rw [List.length_append, List.length_take, List.length_cons, List.length_drop]; omega
    · rcases List.mem_append.1 ht with ht | ht
      · exact okN_mem h (List.mem_of_mem_take ht)
      · rcases List.mem_cons.1 ht with rfl | ht
        · refine Nat.le_trans ?_ (okN_mem h (ft_getD hf))
          show (delAt _ _).length ≤ _
          unfold delAt
          rw [List.length_append, List.length_take, List.length_drop]
          show _ ≤ (Ns.maps _).length
          omega
        · exact okN_mem h (List.mem_of_mem_drop ht)
theorem wkS_len (ts : List SPT) (w addr : Int) : ∀ (n : Nat) (lv b : Int) (out : STr), (wkS ts w addr n lv b out).1.2.2.2.2.1.length ≤ out.2.2.2.2.1.length + n ∧ (wkS ts w addr n lv b out).1.2.2.2.2.2.length ≤ out.2.2.2.2.2.length + n
  | 0, lv, b, out => ⟨Nat.le_refl _, Nat.le_refl _⟩
  | n + 1, lv, b, out => by
    have h0 : (z13.1.2.2.2.2.1.length ≤ out.2.2.2.2.1.length + (n + 1)) ∧ (z13.1.2.2.2.2.2.length ≤ out.2.2.2.2.2.length + (n + 1)) := ⟨Nat.zero_le _, Nat.zero_le _⟩
    have B : ∀ {c : Bool} {x y : STr × Int}, (x.1.2.2.2.2.1.length ≤ out.2.2.2.2.1.length + (n + 1) ∧ x.1.2.2.2.2.2.length ≤ out.2.2.2.2.2.length + (n + 1)) → (y.1.2.2.2.2.1.length ≤ out.2.2.2.2.1.length + (n + 1) ∧ y.1.2.2.2.2.2.length ≤ out.2.2.2.2.2.length + (n + 1)) → ((bif c then x else y).1.2.2.2.2.1.length ≤ out.2.2.2.2.1.length + (n + 1) ∧ (bif c then x else y).1.2.2.2.2.2.length ≤ out.2.2.2.2.2.length + (n + 1)) := fun {c} {x} {y} hx hy => by cases c; exact hy; exact hx
    show (wkR _ _ _ _ _ _).1.2.2.2.2.1.length ≤ _ ∧ (wkR _ _ _ _ _ _).1.2.2.2.2.2.length ≤ _
    unfold wkR
    refine B h0 (B h0 (B h0 (B h0 ?_)))
    obtain ⟨i1, i2⟩ := wkS_len ts w addr n (lv - 1) (maS ts w addr lv b).2.1 (out.1, out.2.1, (maS ts w addr lv b).2.1, (maS ts w addr lv b).2.2.1, out.2.2.2.2.1 ++ [(maS ts w addr lv b).2.2.2], out.2.2.2.2.2 ++ [b])
    simp only [List.length_append, List.length_singleton] at i1 i2
    exact ⟨by omega, by omega⟩
theorem wlkS_len (a : List SPT × SCp × Int) : (wlkS a).1.2.2.2.2.1.length ≤ 3 ∧ (wlkS a).1.2.2.2.2.2.length ≤ 3 := by
  have B : ∀ {c : Bool} {x y : STr × Int}, (x.1.2.2.2.2.1.length ≤ 3 ∧ x.1.2.2.2.2.2.length ≤ 3) → (y.1.2.2.2.2.1.length ≤ 3 ∧ y.1.2.2.2.2.2.length ≤ 3) → ((bif c then x else y).1.2.2.2.2.1.length ≤ 3 ∧ (bif c then x else y).1.2.2.2.2.2.length ≤ 3) := fun {c} {x} {y} hx hy => by cases c; exact hy; exact hx
  have h0 : ([] : List SId).length ≤ 3 ∧ ([] : List Int).length ≤ 3 := ⟨by simp, by simp⟩
  unfold wlkS
  refine B h0 (B h0 (B h0 (B h0 (B h0 ?_))))
  have hg : (geoS a.2.1.2.2.2.2.1).1.toNat ≤ 3 := by
    unfold geoS
    cases decide (a.2.1.2.2.2.2.1 = 32) <;> cases decide (a.2.1.2.2.2.2.1 = 39) <;> decide
  obtain ⟨i1, i2⟩ := wkS_len a.1 a.2.1.2.2.2.2.1 a.2.2 (geoS a.2.1.2.2.2.2.1).1.toNat a.2.1.2.2.2.2.2.1 a.2.1.2.1 (a.2.1.2.1, a.2.2 / 4096, 0, 0, [], [])
  simp only [List.length_nil] at i1 i2
  exact ⟨by omega, by omega⟩
theorem wlkS_pre (a : List SPT × SCp × Int) : trPre (wlkS a).1 = true := by
  obtain ⟨h1, h2⟩ := wlkS_len a
  unfold trPre
  rw [Bool.and_eq_true]
  exact ⟨decide_eq_true (by omega), decide_eq_true (by omega)⟩
noncomputable def C_mapx : Cfg := ⟨Try.prog, [E_rctb, E_cnode, E_vmap, E_rmap, E_vunm, E_rump, E_stab, E_vval, E_rvts], pmT [(1, ([(0, []), (2, []), (3, []), (4, []), (6, []), (1, []), (5, []), (7, []), (8, []), (9, []), (10, []), (11, []), (12, [])], [(11, 12), (21, 31)])), (3, ([(0, []), (2, []), (3, []), (9, []), (1, []), (4, []), (5, []), (6, []), (7, []), (8, []), (10, []), (11, []), (12, [])], [(15, 17), (41, 49)]))], 89, [], []⟩
theorem es_mapx : EsOk Try.prog [E_rctb, E_cnode, E_vmap, E_rmap, E_vunm, E_rump, E_stab, E_vval, E_rvts] [] := es_cons E_rctb_ok (es_cons E_cnode_ok (es_cons E_vmap_ok (es_cons E_rmap_ok (es_cons E_vunm_ok (es_cons E_rump_ok (es_cons E_stab_ok (es_cons E_vval_ok (es_cons E_rvts_ok (es_nil)))))))))
def Lt_mapx : Nat → LD := ldT []
noncomputable def M_mapx (f : Nat) (a : (List (SPT)) × SCp × Int × SNd × Int) : Option (Bool) := (runX (C_mapx) Lt_mapx (Kret Try.prog [.tmp 10] [.v (.bool)]) f [.code (bodyOf Try.f48)] (initX [.rd tSPT, .g tSCp, .c (.int .i64), .g tSNd, .c (.int .i64)] a) : Option (ResT [.v (.bool)]))
theorem M_mapx_eq (f : Nat) (ts : List (SPT)) (table : SCp) (index : Int) (n : SNd) (mask : Int) : M_mapx (f + 1) (ts, table, index, n, mask) =
    bif okT ts then bif len40n n.2.2.2.1 then bif Go.Proofs.mapPre (ts, table, index, n, mask) then bif okT ts then bif okT ts then bif okM ts then bif okT ts then bif okT (Go.Proofs.mapS (ts, table, index, n, mask)).1 then bif decide ((Go.Proofs.mapS (ts, table, index, n, mask)).1 = (Go.Proofs.mapS (ts, table, index, n, mask)).1) then bif (Go.Proofs.mapS (ts, table, index, n, mask)).2 == (Go.Proofs.mapS (ts, table, index, n, mask)).2 then bif okT (Go.Proofs.unmS (ts, table, index)).1 then bif decide ((Go.Proofs.unmS (ts, table, index)).1 = (Go.Proofs.unmS (ts, table, index)).1) then bif (Go.Proofs.unmS (ts, table, index)).2.1.1 == (Go.Proofs.unmS (ts, table, index)).2.1.1 && ((Go.Proofs.unmS (ts, table, index)).2.1.2.1 == (Go.Proofs.unmS (ts, table, index)).2.1.2.1 && ((Go.Proofs.unmS (ts, table, index)).2.1.2.2 == (Go.Proofs.unmS (ts, table, index)).2.1.2.2 && true)) then bif (Go.Proofs.unmS (ts, table, index)).2.2 == (Go.Proofs.unmS (ts, table, index)).2.2 then bif okT ts then bif okM ts then bif okM ts then some (tabsB ts == tabsB ts) else none else none else none else some false else some false else some false else none else some false else some false else none else none else none else none else none else none else none else none := by kernel_rfl
noncomputable def F_mapx : ((List (SPT)) × SCp × Int × SNd × Int) → Bool
  | (ts, table, index, n, mask) => bif decide ((Go.Proofs.mapS (ts, table, index, n, mask)).1 = (Go.Proofs.mapS (ts, table, index, n, mask)).1) then bif (Go.Proofs.mapS (ts, table, index, n, mask)).2 == (Go.Proofs.mapS (ts, table, index, n, mask)).2 then bif decide ((Go.Proofs.unmS (ts, table, index)).1 = (Go.Proofs.unmS (ts, table, index)).1) then bif (Go.Proofs.unmS (ts, table, index)).2.1.1 == (Go.Proofs.unmS (ts, table, index)).2.1.1 && ((Go.Proofs.unmS (ts, table, index)).2.1.2.1 == (Go.Proofs.unmS (ts, table, index)).2.1.2.1 && ((Go.Proofs.unmS (ts, table, index)).2.1.2.2 == (Go.Proofs.unmS (ts, table, index)).2.1.2.2 && true)) then bif (Go.Proofs.unmS (ts, table, index)).2.2 == (Go.Proofs.unmS (ts, table, index)).2.2 then tabsB ts == tabsB ts else false else false else false else false else false
noncomputable def P_mapx : ((List (SPT)) × SCp × Int × SNd × Int) → Bool
  | (ts, table, index, n, mask) => okT ts && (len40n n.2.2.2.1 && (Go.Proofs.mapPre (ts, table, index, n, mask) && (okT ts && (okT ts && (okM ts && (okT ts && (okT (Go.Proofs.mapS (ts, table, index, n, mask)).1 && bif decide ((Go.Proofs.mapS (ts, table, index, n, mask)).1 = (Go.Proofs.mapS (ts, table, index, n, mask)).1) then bif (Go.Proofs.mapS (ts, table, index, n, mask)).2 == (Go.Proofs.mapS (ts, table, index, n, mask)).2 then okT (Go.Proofs.unmS (ts, table, index)).1 && bif decide ((Go.Proofs.unmS (ts, table, index)).1 = (Go.Proofs.unmS (ts, table, index)).1) then bif (Go.Proofs.unmS (ts, table, index)).2.1.1 == (Go.Proofs.unmS (ts, table, index)).2.1.1 && ((Go.Proofs.unmS (ts, table, index)).2.1.2.1 == (Go.Proofs.unmS (ts, table, index)).2.1.2.1 && ((Go.Proofs.unmS (ts, table, index)).2.1.2.2 == (Go.Proofs.unmS (ts, table, index)).2.1.2.2 && true)) then bif (Go.Proofs.unmS (ts, table, index)).2.2 == (Go.Proofs.unmS (ts, table, index)).2.2 then okT ts && (okM ts && okM ts) else true else true else true else true else true)))))))
theorem mapx_auto : ∀ a : (List (SPT)) × SCp × Int × SNd × Int, Rns (fun f => M_mapx f a) (P_mapx a) (F_mapx a)
  | (ts, table, index, n, mask) => ev_step (fun f => M_mapx_eq f _ _ _ _ _) (ev_chk (ev_chk (ev_chk (ev_chk (ev_chk (ev_chk (ev_chk (ev_chk (ev_bif (ev_bif (ev_chk (ev_bif (ev_bif (ev_bif (ev_chk (ev_chk (ev_chk1 ev_some))) ev_some) ev_some) ev_some)) ev_some) ev_some)))))))))
def mapxPre (a : List SPT × SCp × Int × SNd × Int) : Bool := okN 1000000 a.1 && len40n a.2.2.2.1.2.2.2.1
theorem mapx_P : ∀ a : List SPT × SCp × Int × SNd × Int, mapxPre a = true → P_mapx a = true := fun a h => by
  obtain ⟨h1, h2⟩ := Bool.and_eq_true_iff.1 h
  have k1 := okN_okT (by omega) h1
  have k2 := okT_okM k1
  have k3 := okN_okT (by omega) (mapS_okN a h1)
  have k4 := okN_okT (by omega) (unmS_okN (a.1, a.2.1, a.2.2.1) h1)
  obtain ⟨ts, table, index, n, mask⟩ := a
  have k1 : okT ts = true := k1
  have k2 : okM ts = true := k2
  have k4 : okT (unmS (ts, table, index)).1 = true := k4
  simp only [P_mapx, mapPre, k1, k2, k3, k4, h2, Bool.true_and]
  simp
theorem mapx_F : ∀ a : List SPT × SCp × Int × SNd × Int, mapxPre a = true → F_mapx a = (fun _ => true) a := fun a h => by
  simp [F_mapx]
theorem mapx_run : ∀ a, (mapxPre : (List (SPT)) × SCp × Int × SNd × Int → Bool) a = true → ∃ f, M_mapx f a = some ((fun _ => true : (List (SPT)) × SCp × Int × SNd × Int → Bool) a) := fun a h => by have h1 := mapx_auto a (mapx_P a h); rw [mapx_F a h] at h1; exact h1
noncomputable def E_mapx : Ent := ⟨48, [.rd tSPT, .g tSCp, .c (.int .i64), .g tSNd, .c (.int .i64)], [.v (.bool)], fun a => (mapxPre : (List (SPT)) × SCp × Int × SNd × Int → Bool) a, fun a => (fun _ => true : (List (SPT)) × SCp × Int × SNd × Int → Bool) a⟩
theorem E_mapx_ok : E_mapx.Ok Try.prog := fun a hp vs hv => (mapx_run a hp).elim fun f h => fnX_ok (C := C_mapx) (Lt := Lt_mapx) (fn := Try.f48) (rs := [.tmp 10]) [.rd tSPT, .g tSCp, .c (.int .i64), .g tSNd, .c (.int .i64)] [.v (.bool)] mixed es_mapx Try.func48 rfl rfl rfl (by kernel_rfl) (by kernel_rfl) f h vs hv
noncomputable def C_wlkx : Cfg := ⟨Try.prog, [E_rctb, E_wlk, E_rwlk, E_str], pmT [(1, ([(0, []), (2, []), (3, []), (8, []), (1, []), (4, []), (5, []), (6, []), (7, []), (9, []), (10, [])], [(7, 8), (11, 18)]))], 34, [], []⟩
theorem es_wlkx : EsOk Try.prog [E_rctb, E_wlk, E_rwlk, E_str] [] := es_cons E_rctb_ok (es_cons E_wlk_ok (es_cons E_rwlk_ok (es_cons E_str_ok (es_nil))))
def Lt_wlkx : Nat → LD := ldT []
noncomputable def M_wlkx (f : Nat) (a : (List (SPT)) × SCp × Int) : Option (Bool) := (runX (C_wlkx) Lt_wlkx (Kret Try.prog [.tmp 6] [.v (.bool)]) f [.code (bodyOf Try.f15)] (initX [.rd tSPT, .g tSCp, .c (.int .i64)] a) : Option (ResT [.v (.bool)]))
theorem M_wlkx_eq (f : Nat) (ts : List (SPT)) (root : SCp) (addr : Int) : M_wlkx (f + 1) (ts, root, addr) =
    bif okT ts then bif okM ts then bif okM ts then bif strPre ((wlkS (ts, root, addr)).1, (wlkS (ts, root, addr)).1) then bif decide ((wlkS (ts, root, addr)).1 = (wlkS (ts, root, addr)).1) then some ((wlkS (ts, root, addr)).2 == (wlkS (ts, root, addr)).2) else some false else none else none else none else none := by kernel_rfl
noncomputable def F_wlkx : ((List (SPT)) × SCp × Int) → Bool
  | (ts, root, addr) => bif decide ((wlkS (ts, root, addr)).1 = (wlkS (ts, root, addr)).1) then (wlkS (ts, root, addr)).2 == (wlkS (ts, root, addr)).2 else false
noncomputable def P_wlkx : ((List (SPT)) × SCp × Int) → Bool
  | (ts, root, addr) => okT ts && (okM ts && (okM ts && strPre ((wlkS (ts, root, addr)).1, (wlkS (ts, root, addr)).1)))
theorem wlkx_auto : ∀ a : (List (SPT)) × SCp × Int, Rns (fun f => M_wlkx f a) (P_wlkx a) (F_wlkx a)
  | (ts, root, addr) => ev_step (fun f => M_wlkx_eq f _ _ _) (ev_chk (ev_chk (ev_chk (ev_chk1 (ev_bift ev_some ev_some)))))
theorem wlkx_P : ∀ a : List SPT × SCp × Int, (fun a : List SPT × SCp × Int => okN 1000000 a.1) a = true → P_wlkx a = true := fun a h => by
  have h : okN 1000000 a.1 = true := h
  have k1 := okN_okT (by omega) h
  have k2 := okT_okM k1
  have k3 : strPre ((wlkS a).1, (wlkS a).1) = true := tr40 (wlkS_pre a)
  obtain ⟨ts, root, addr⟩ := a
  have k1 : okT ts = true := k1
  have k2 : okM ts = true := k2
  simp only [P_wlkx, k1, k2, k3, Bool.and_self]
theorem wlkx_F : ∀ a : List SPT × SCp × Int, (fun a : List SPT × SCp × Int => okN 1000000 a.1) a = true → F_wlkx a = (fun _ => true) a := fun a h => by
  simp [F_wlkx]
theorem wlkx_run : ∀ a, (fun a => okN 1000000 a.1 : (List (SPT)) × SCp × Int → Bool) a = true → ∃ f, M_wlkx f a = some ((fun _ => true : (List (SPT)) × SCp × Int → Bool) a) := fun a h => by have h1 := wlkx_auto a (wlkx_P a h); rw [wlkx_F a h] at h1; exact h1
noncomputable def E_wlkx : Ent := ⟨15, [.rd tSPT, .g tSCp, .c (.int .i64)], [.v (.bool)], fun a => (fun a => okN 1000000 a.1 : (List (SPT)) × SCp × Int → Bool) a, fun a => (fun _ => true : (List (SPT)) × SCp × Int → Bool) a⟩
theorem E_wlkx_ok : E_wlkx.Ok Try.prog := fun a hp vs hv => (wlkx_run a hp).elim fun f h => fnX_ok (C := C_wlkx) (Lt := Lt_wlkx) (fn := Try.f15) (rs := [.tmp 6]) [.rd tSPT, .g tSCp, .c (.int .i64)] [.v (.bool)] mixed es_wlkx Try.func15 rfl rfl rfl (by kernel_rfl) (by kernel_rfl) f h vs hv
noncomputable def grow1 (ts : List SPT) (u : SAc) : List SPT × Int := mapS (ts, tcapS u.2.1, place (u.2.2.1, 6), mnodS u.2.2.2.1, place (u.2.2.2.2, 8))
noncomputable def grownS : Nat → List SPT → List SAc → List SPT
  | 0, ts, _ => ts
  | _ + 1, ts, [] => ts
  | n + 1, ts, u :: r => grownS n (bif (grow1 ts u).2 == 0 then (grow1 ts u).1 else ts) r
theorem grow1_okN {n : Nat} {ts : List SPT} (u : SAc) (h : okN n ts = true) : okN (n + 1) (bif (grow1 ts u).2 == 0 then (grow1 ts u).1 else ts) = true :=
  bif_p (P := fun l => okN (n + 1) l = true) (mapS_okN _ h) (okN_le (Nat.le_succ _) h)
theorem grownS_okN : ∀ (k n : Nat) (ts : List SPT) (l : List SAc), okN n ts = true → okN (n + k) (grownS k ts l) = true
  | 0, n, ts, l, h => h
  | k + 1, n, ts, [], h => okN_le (Nat.le_add_right _ _) h
  | k + 1, n, ts, u :: r, h => by
    have := grownS_okN k (n + 1) _ r (grow1_okN u h)
    rw [show n + 1 + k = n + (k + 1) by omega] at this
    exact this
noncomputable def C_grow : Cfg := ⟨Try.prog, [E_tcap, E_place, E_mnod, E_rmap], pmT [(5, ([(0, []), (1, []), (2, []), (3, []), (4, []), (5, []), (7, []), (8, []), (9, []), (10, []), (11, []), (13, []), (14, []), (15, []), (16, []), (17, []), (19, []), (20, []), (21, []), (22, []), (23, []), (6, []), (12, []), (18, []), (24, []), (25, []), (26, []), (27, []), (28, []), (29, []), (30, [])], [(5, 6), (17, 45)]))], 50, [], []⟩
theorem es_grow : EsOk Try.prog [E_tcap, E_place, E_mnod, E_rmap] [] := es_cons E_tcap_ok (es_cons E_place_ok (es_cons E_mnod_ok (es_cons E_rmap_ok (es_nil))))
def Lt_grow : Nat → LD := ldT [(0, ⟨[.rd 0 tSAc, .list 3 999 60 4 tSPT, .c 4 (.int .i64)], []⟩)]
noncomputable def M_grow (f : Nat) (a : (List (SAc))) : Option ((List (SPT))) := (runX (C_grow) Lt_grow (Kret Try.prog [.tmp 2] [.o 60 4 tSPT]) f [.code (bodyOf Try.f13)] (initX [.rd tSAc] a) : Option (ResT [.o 60 4 tSPT]))
noncomputable def L_grow_0 (f : Nat) (x : (List (SAc)) × (List (SPT)) × Int) : Option ((List (SPT))) := (runX (C_grow) Lt_grow (Kret Try.prog [.tmp 2] [.o 60 4 tSPT]) f (headOf Try.f13 0) ((Lt_grow 0).mk' x) : Option (ResT [.o 60 4 tSPT]))
theorem M_grow_eq (f : Nat) (l : List (SAc)) : M_grow (f + 1) l =
    L_grow_0 f (l, [], 0) := by kernel_rfl
theorem L_grow_0_eq (f : Nat) (l : List (SAc)) (ts : List (SPT)) (i : Int) : L_grow_0 (f + 1) (l, ts, i) =
    bif decide (i < (↑l.length : Int)) then bif decide (i < 30) then bif decide (0 ≤ i) && decide (i < (↑l.length : Int)) then bif decide (0 ≤ i) && decide (i < (↑l.length : Int)) then bif decide (0 ≤ i) && decide (i < (↑l.length : Int)) then bif decide (0 ≤ i) && decide (i < (↑l.length : Int)) then bif okT ts then bif (Go.Proofs.mapS (ts, tcapS (l.getD i.toNat (0, 0, 0, 0, 0)).2.1, place ((l.getD i.toNat (0, 0, 0, 0, 0)).2.2.1, 6), mnodS (l.getD i.toNat (0, 0, 0, 0, 0)).2.2.2.1, place ((l.getD i.toNat (0, 0, 0, 0, 0)).2.2.2.2, 8))).2 == 0 then L_grow_0 f (l, (Go.Proofs.mapS (ts, tcapS (l.getD i.toNat (0, 0, 0, 0, 0)).2.1, place ((l.getD i.toNat (0, 0, 0, 0, 0)).2.2.1, 6), mnodS (l.getD i.toNat (0, 0, 0, 0, 0)).2.2.2.1, place ((l.getD i.toNat (0, 0, 0, 0, 0)).2.2.2.2, 8))).1, IntKind.i64.wrap (i + 1)) else L_grow_0 f (l, ts, IntKind.i64.wrap (i + 1)) else none else none else none else none else none else some ts else some ts := by kernel_rfl
noncomputable def F_grow_0 : List (SAc) → ((List (SAc)) × (List (SPT)) × Nat) → (List (SPT))
  | [], (l, ts, i) => ts
  | uu :: rest, (l, ts, i) => bif decide ((↑i : Int) < 30) then bif (Go.Proofs.mapS (ts, tcapS uu.2.1, place (uu.2.2.1, 6), mnodS uu.2.2.2.1, place (uu.2.2.2.2, 8))).2 == 0 then F_grow_0 rest (l, (Go.Proofs.mapS (ts, tcapS uu.2.1, place (uu.2.2.1, 6), mnodS uu.2.2.2.1, place (uu.2.2.2.2, 8))).1, i + 1) else F_grow_0 rest (l, ts, i + 1) else ts
noncomputable def P_grow_0 : List (SAc) → ((List (SAc)) × (List (SPT)) × Nat) → Bool
  | [], (l, ts, i) => true
  | uu :: rest, (l, ts, i) => bif decide ((↑i : Int) < 30) then okT ts && bif (Go.Proofs.mapS (ts, tcapS uu.2.1, place (uu.2.2.1, 6), mnodS uu.2.2.2.1, place (uu.2.2.2.2, 8))).2 == 0 then P_grow_0 rest (l, (Go.Proofs.mapS (ts, tcapS uu.2.1, place (uu.2.2.1, 6), mnodS uu.2.2.2.1, place (uu.2.2.2.2, 8))).1, i + 1) else P_grow_0 rest (l, ts, i + 1) else true
theorem A_grow_0 : ∀ (rest : List (SAc)) (l : List (SAc)) (ts : List (SPT)) (i : Nat) (hd : l.drop i = rest) (hl : l.length ≤ 1099511627776), Rns (fun f => L_grow_0 f (l, ts, ((i : Nat) : Int))) (P_grow_0 rest (l, ts, i)) (F_grow_0 rest (l, ts, i))
  | [], l, ts, i, hd, hl => ev_step (T := fun f => some ts) (fun f => (L_grow_0_eq f _ _ _).trans (by simp only [ge_dec (drop_ge hd), ge0, Bool.and_self, Bool.true_and, cond_true, cond_false, List.length_set] <;> rfl)) ev_some
  | uu :: rest, l, ts, i, hd, hl => ev_step (T := fun f => bif decide ((↑i : Int) < 30) then bif okT ts then bif (Go.Proofs.mapS (ts, tcapS uu.2.1, place (uu.2.2.1, 6), mnodS uu.2.2.2.1, place (uu.2.2.2.2, 8))).2 == 0 then L_grow_0 f (l, (Go.Proofs.mapS (ts, tcapS uu.2.1, place (uu.2.2.1, 6), mnodS uu.2.2.2.1, place (uu.2.2.2.2, 8))).1, (↑(i + 1) : Int)) else L_grow_0 f (l, ts, (↑(i + 1) : Int)) else none else some ts) (fun f => (L_grow_0_eq f _ _ _).trans (by simp only [lt_dec (drop_lt hd), drop_get hd, wrap_succ (drop_lt hd) hl, getD_set (drop_lt hd), ge0, Bool.and_self, Bool.true_and, cond_true, cond_false, List.length_set] <;> rfl)) (ev_bif (ev_chk (ev_bif (A_grow_0 rest _ _ _ (by first | exact drop_succ hd | exact drop_set hd | exact drop_setS (drop_set hd)) (by first | exact hl | simpa using hl)) (A_grow_0 rest _ _ _ (by first | exact drop_succ hd | exact drop_set hd | exact drop_setS (drop_set hd)) (by first | exact hl | simpa using hl)))) ev_some)
noncomputable def F_grow : (List (SAc)) → (List (SPT))
  | l => F_grow_0 l (l, [], 0)
noncomputable def P_grow : (List (SAc)) → Bool
  | l => decide (l.length ≤ 1099511627776) && P_grow_0 l (l, [], 0)
theorem grow_auto : ∀ a : (List (SAc)), Rns (fun f => M_grow f a) (P_grow a) (F_grow a)
  | l => ev_step (fun f => M_grow_eq f _) (ev_and fun hh => A_grow_0 _ _ _ _ rfl (of_decide_eq_true hh))
theorem grow_loop : ∀ (rest pre : List SAc) (ts : List SPT) (n : Nat), pre.length + n = 30 → okN pre.length ts = true → ∃ f, L_grow_0 f (pre ++ rest, ts, ((pre.length : Nat) : Int)) = some (grownS n ts rest)
  | [], pre, ts, n, hp, ho => ⟨1, (L_grow_0_eq 0 _ _ _).trans (by rw [lt_end]; cases n <;> rfl)⟩
  | u :: rest, pre, ts, n, hp, ho => by
    have e1 : IntKind.i64.wrap (((pre.length : Nat) : Int) + 1) = ((pre.length + 1 : Nat) : Int) := by rw [i64_id (by omega) (by omega)]; rfl
    have hT := okN_okT (by omega) ho
    by_cases h1 : ((pre.length : Nat) : Int) < 30
    case neg =>
      have : n = 0 := by omega
      subst this
      refine ⟨1, (L_grow_0_eq 0 _ _ _).trans ?_⟩
      rw [lt_mid]
      simp only [decide_eq_false h1]; rfl
    obtain ⟨m, rfl⟩ : ∃ m, n = m + 1 := ⟨n - 1, by omega⟩
    have ho2 := grow1_okN u ho
    obtain ⟨f, hf⟩ := grow_loop rest (pre ++ [u]) _ m (by simp; omega) (by rw [show (pre ++ [u]).length = pre.length + 1 by simp]; exact ho2)
    refine ⟨f + 1, (L_grow_0_eq f _ _ _).trans ?_⟩
    rw [lt_mid, getD_mid, ge0, e1]
    simp only [decide_eq_true h1, hT, cond_true, cond_false, Bool.and_self]
    rw [show (pre ++ [u]).length = pre.length + 1 by simp, List.append_assoc] at hf
    show (bif (grow1 ts u).2 == 0 then L_grow_0 f (pre ++ u :: rest, (grow1 ts u).1, ((pre.length + 1 : Nat) : Int)) else L_grow_0 f (pre ++ u :: rest, ts, ((pre.length + 1 : Nat) : Int))) = some (grownS m (bif (grow1 ts u).2 == 0 then (grow1 ts u).1 else ts) rest)
    rw [← hf]
    cases (grow1 ts u).2 == 0 <;> rfl
theorem grow_run : ∀ a, (fun _ => true) a = true → ∃ f, M_grow f a = some ((fun l => grownS 30 [] l) a) := fun a _ => by
  obtain ⟨f, hf⟩ := grow_loop a [] [] 30 rfl (okN_mk (by simp) (by simp))
  exact ⟨f + 1, (M_grow_eq f _).trans hf⟩
noncomputable def E_grow : Ent := ⟨13, [.rd tSAc], [.o 60 4 tSPT], fun a => (fun _ => true : (List (SAc)) → Bool) a, fun a => (fun l => grownS 30 [] l : (List (SAc)) → (List (SPT))) a⟩
theorem E_grow_ok : E_grow.Ok Try.prog := fun a hp vs hv => (grow_run a hp).elim fun f h => fnX_ok (C := C_grow) (Lt := Lt_grow) (fn := Try.f13) (rs := [.tmp 2]) [.rd tSAc] [.o 60 4 tSPT] mixed es_grow Try.func13 rfl rfl rfl (by kernel_rfl) (by kernel_rfl) f h vs hv
end Go.AL
/-
  VspaceMapExact, VspaceWalkExact: what they compute. By an AI agent.
-/
namespace Go.AL
open Go.Proofs
set_option linter.unusedVariables false
set_option linter.unusedSimpArgs false
noncomputable def C_vmx : Cfg := ⟨Try.prog, [E_few, E_awk, E_grow, E_mapx, E_tcap, E_mnod], pmT [], 52, [], []⟩
theorem es_vmx : EsOk Try.prog [E_few, E_awk, E_grow, E_mapx, E_tcap, E_mnod] [] := es_cons E_few_ok (es_cons E_awk_ok (es_cons E_grow_ok (es_cons E_mapx_ok (es_cons E_tcap_ok (es_cons E_mnod_ok (es_nil))))))
def Lt_vmx : Nat → LD := ldT []
noncomputable def M_vmx (f : Nat) (a : (List (SPT)) × (List (SAc)) × SCp × Int × SNd × Int) : Option (Bool) := (runX (C_vmx) Lt_vmx (Kret Try.prog [.tmp 12] [.v (.bool)]) f [.code (bodyOf Try.f8)] (initX [.rd tSPT, .rd tSAc, .g tSCp, .c (.int .i64), .g tSNd, .c (.int .i64)] a) : Option (ResT [.v (.bool)]))
theorem M_vmx_eq (f : Nat) (ts : List (SPT)) (l : List (SAc)) (table : SCp) (index : Int) (n : SNd) (mask : Int) : M_vmx (f + 1) (ts, l, table, index, n, mask) =
    bif !F_few ts then some true else bif decide ((↑(List.length n.2.2.2.1) : Int) > 20) then some true else bif mapxPre (ts, table, index, n, mask) then bif mapxPre (grownS 30 [] l, table, index, n, mask) then bif mapxPre (grownS 30 [] l, tcapS index, index, mnodS mask, 3) then some true else none else none else none := by kernel_rfl
noncomputable def F_vmx : ((List (SPT)) × (List (SAc)) × SCp × Int × SNd × Int) → Bool
  | (ts, l, table, index, n, mask) => bif !F_few ts then true else bif decide ((↑(List.length n.2.2.2.1) : Int) > 20) then true else true
noncomputable def P_vmx : ((List (SPT)) × (List (SAc)) × SCp × Int × SNd × Int) → Bool
  | (ts, l, table, index, n, mask) => bif !F_few ts then true else bif decide ((↑(List.length n.2.2.2.1) : Int) > 20) then true else mapxPre (ts, table, index, n, mask) && (mapxPre (grownS 30 [] l, table, index, n, mask) && mapxPre (grownS 30 [] l, tcapS index, index, mnodS mask, 3))
theorem vmx_auto : ∀ a : (List (SPT)) × (List (SAc)) × SCp × Int × SNd × Int, Rns (fun f => M_vmx f a) (P_vmx a) (F_vmx a)
  | (ts, l, table, index, n, mask) => ev_step (fun f => M_vmx_eq f _ _ _ _ _ _) (ev_bif ev_some (ev_bif ev_some (ev_chk (ev_chk (ev_chk1 ev_some)))))
theorem grown_okN (l : List SAc) : okN 30 (grownS 30 [] l) = true := grownS_okN 30 0 [] l (okN_mk (by simp) (by simp))
theorem grown_okM (l : List SAc) : okN 1000000 (grownS 30 [] l) = true := okN_le (by omega) (grown_okN l)
theorem mnod_path (n : Int) : (mnodS n).2.2.2.1 = [] := by
  unfold mnodS; cases decide (place (n, 8) < 4) <;> rfl
theorem vmx_P : ∀ a : (List (SPT)) × (List (SAc)) × SCp × Int × SNd × Int, (fun _ => true) a = true → P_vmx a = true := by
  rintro ⟨ts, l, table, index, n, mask⟩ _
  simp only [P_vmx]
  cases hf : F_few ts
  · rfl
  have hf := few_okN hf
  by_cases hn : ((List.length n.2.2.2.1 : Nat) : Int) > 20
  · rw [decide_eq_true hn]; rfl
  · rw [decide_eq_false hn]
    have e1 : len40n n.2.2.2.1 = true := decide_eq_true (by omega)
    have e2 : len40n (mnodS mask).2.2.2.1 = true := by rw [mnod_path]; rfl
    simp only [mapxPre, hf, grown_okM, e1, e2]; rfl
theorem vmx_F : ∀ a : (List (SPT)) × (List (SAc)) × SCp × Int × SNd × Int, (fun _ => true) a = true → F_vmx a = (fun _ => true) a := by
  rintro ⟨ts, l, table, index, n, mask⟩ _
  simp [F_vmx]
theorem vmx_true : ∀ a : (List (SPT)) × (List (SAc)) × SCp × Int × SNd × Int, ∃ f, M_vmx f a = some true := fun a => by
  have h := vmx_auto a (vmx_P a rfl)
  rw [vmx_F a rfl] at h; exact h
noncomputable def C_vwx : Cfg := ⟨Try.prog, [E_few, E_awk, E_grow, E_place, E_wlkx, E_tcap], pmT [], 48, [], []⟩
theorem es_vwx : EsOk Try.prog [E_few, E_awk, E_grow, E_place, E_wlkx, E_tcap] [] := es_cons E_few_ok (es_cons E_awk_ok (es_cons E_grow_ok (es_cons E_place_ok (es_cons E_wlkx_ok (es_cons E_tcap_ok (es_nil))))))
def Lt_vwx : Nat → LD := ldT []
noncomputable def M_vwx (f : Nat) (a : (List (SPT)) × (List (SAc)) × SCp × Int) : Option (Bool) := (runX (C_vwx) Lt_vwx (Kret Try.prog [.tmp 8] [.v (.bool)]) f [.code (bodyOf Try.f3)] (initX [.rd tSPT, .rd tSAc, .g tSCp, .c (.int .i64)] a) : Option (ResT [.v (.bool)]))
theorem M_vwx_eq (f : Nat) (ts : List (SPT)) (l : List (SAc)) (root : SCp) (addr : Int) : M_vwx (f + 1) (ts, l, root, addr) =
    bif !F_few ts then some true else bif okN 1000000 ts then bif okN 1000000 (grownS 30 [] l) then bif okN 1000000 (grownS 30 [] l) then some true else none else none else none := by kernel_rfl
noncomputable def F_vwx : ((List (SPT)) × (List (SAc)) × SCp × Int) → Bool
  | (ts, l, root, addr) => bif !F_few ts then true else true
noncomputable def P_vwx : ((List (SPT)) × (List (SAc)) × SCp × Int) → Bool
  | (ts, l, root, addr) => bif !F_few ts then true else okN 1000000 ts && (okN 1000000 (grownS 30 [] l) && okN 1000000 (grownS 30 [] l))
theorem vwx_auto : ∀ a : (List (SPT)) × (List (SAc)) × SCp × Int, Rns (fun f => M_vwx f a) (P_vwx a) (F_vwx a)
  | (ts, l, root, addr) => ev_step (fun f => M_vwx_eq f _ _ _ _) (ev_bif ev_some (ev_chk (ev_chk (ev_chk1 ev_some))))
theorem vwx_P : ∀ a : (List (SPT)) × (List (SAc)) × SCp × Int, (fun _ => true) a = true → P_vwx a = true := by
  rintro ⟨ts, l, root, addr⟩ _
  simp only [P_vwx, grown_okM]
  cases hf : F_few ts
  · rfl
  rw [few_okN hf]; rfl
theorem vwx_F : ∀ a : (List (SPT)) × (List (SAc)) × SCp × Int, (fun _ => true) a = true → F_vwx a = (fun _ => true) a := by
  rintro ⟨ts, l, root, addr⟩ _
  simp [F_vwx]
theorem vwx_true : ∀ a : (List (SPT)) × (List (SAc)) × SCp × Int, ∃ f, M_vwx f a = some true := fun a => by
  have h := vwx_auto a (vwx_P a rfl)
  rw [vwx_F a rfl] at h; exact h
end Go.AL
