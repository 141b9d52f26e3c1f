/-
  Layer 16: walks, Sync and caches: models. By an AI agent.
-/
import Derived.Test.YtcpdakiailaneaaV5
import Derived.Test.YtcpdakiailaneaaVe
import Derived.Test.YtcpdakiailaneaaV3
namespace Go.AL
open Go.Proofs
set_option linter.unusedVariables false
set_option linter.unusedSimpArgs false
theorem ctr_P : ∀ t : STr, (fun t : STr => len40n t.2.2.2.2.1 && len40n t.2.2.2.2.2) t = true → P_ctr t = true := fun t h => h
theorem ctr_F : ∀ t : STr, (fun t : STr => len40n t.2.2.2.2.1 && len40n t.2.2.2.2.2) t = true → F_ctr t = (fun t => t) t := fun t h => rfl
theorem ctr_run : ∀ a, (fun t : STr => len40n t.2.2.2.2.1 && len40n t.2.2.2.2.2 : STr → Bool) a = true → ∃ f, M_ctr f a = some ((fun t => t : STr → STr) a) := fun a h => by have h1 := ctr_auto a (ctr_P a h); rw [ctr_F a h] at h1; exact h1
noncomputable def E_ctr : Ent := ⟨70, [.g tSTr], [.g tSTr], fun a => (fun t : STr => len40n t.2.2.2.2.1 && len40n t.2.2.2.2.2 : STr → Bool) a, fun a => (fun t => t : STr → STr) a⟩
theorem E_ctr_ok : E_ctr.Ok Try.prog := fun a hp vs hv => (ctr_run a hp).elim fun f h => fnX_ok (C := C_ctr) (Lt := Lt_ctr) (fn := Try.f70) (rs := [.cell 2 45]) [.g tSTr] [.g tSTr] mixed es_ctr Try.func70 rfl rfl rfl (by kernel_rfl) (by kernel_rfl) f h vs hv
instance decSTr : DecidableEq STr := @instDecidableEqProd _ _ (inferInstanceAs (DecidableEq Int)) (@instDecidableEqProd _ _ (inferInstanceAs (DecidableEq Int)) (@instDecidableEqProd _ _ (inferInstanceAs (DecidableEq Int)) (@instDecidableEqProd _ _ (inferInstanceAs (DecidableEq Int)) (@instDecidableEqProd _ _ (inferInstanceAs (DecidableEq (List (Int × Int × Int)))) (inferInstanceAs (DecidableEq (List Int)))))))
def strPre (a : STr × STr) : Bool := len40n a.1.2.2.2.2.1 && len40n a.1.2.2.2.2.2
theorem str_both : ∀ a : STr × STr, strPre a = true → P_str a = true ∧ F_str a = decide (a.1 = a.2) := by
  rintro ⟨⟨a1, a2, a3, a4, a5, a6⟩, ⟨b1, b2, b3, b4, b5, b6⟩⟩ h
  obtain ⟨h1, h2⟩ := Bool.and_eq_true_iff.1 h
  have h1 : len40n a5 = true := h1
  have h2 : len40n a6 = true := h2
  simp only [P_str, F_str, h1, h2, beqI]
  by_cases e : a1 = b1 ∧ a2 = b2 ∧ a3 = b3 ∧ a4 = b4 ∧ a5 = b5 ∧ a6 = b6
  · obtain ⟨rfl, rfl, rfl, rfl, rfl, rfl⟩ := e
    simp
  · have e2 : ¬ ((a1, a2, a3, a4, a5, a6) : STr) = (b1, b2, b3, b4, b5, b6) := fun e' => e (by
      simp only [Prod.mk.injEq] at e'
      exact e')
    rw [decide_eq_false e2]
    by_cases c1 : a1 = b1 <;> by_cases c2 : a2 = b2 <;> by_cases c3 : a3 = b3 <;> by_cases c4 : a4 = b4 <;> by_cases c5 : a5 = b5 <;> by_cases c6 : a6 = b6 <;> simp_all
theorem str_P : ∀ a : STr × STr, strPre a = true → P_str a = true := fun a h => (str_both a h).1
theorem str_F : ∀ a : STr × STr, strPre a = true → F_str a = (fun a => decide (a.1 = a.2)) a := fun a h => (str_both a h).2
theorem str_run : ∀ a, (strPre : STr × STr → Bool) a = true → ∃ f, M_str f a = some ((fun a => decide (a.1 = a.2) : STr × STr → Bool) a) := fun a h => by have h1 := str_auto a (str_P a h); rw [str_F a h] at h1; exact h1
noncomputable def E_str : Ent := ⟨39, [.g tSTr, .g tSTr], [.v (.bool)], fun a => (strPre : STr × STr → Bool) a, fun a => (fun a => decide (a.1 = a.2) : STr × STr → Bool) a⟩
theorem E_str_ok : E_str.Ok Try.prog := fun a hp vs hv => (str_run a hp).elim fun f h => fnX_ok (C := C_str) (Lt := Lt_str) (fn := Try.f39) (rs := [.tmp 4]) [.g tSTr, .g tSTr] [.v (.bool)] mixed es_str Try.func39 rfl rfl rfl (by kernel_rfl) (by kernel_rfl) f h vs hv
def taS (ts : List SPT) (b : Int) : SPT := ts.getD (ftS ts b).toNat (0, 0, 0, [])
def faS (ts : List SPT) (w addr lv b : Int) : Int := fmS (taS ts b).2.2.2 (ixS (w, lv, addr))
def maS (ts : List SPT) (w addr lv b : Int) : SMp := List.getD (taS ts b).2.2.2 (faS ts w addr lv b).toNat (0, 0, 0, 0, 0, 0)
section
variable {ρ : Type} {A B : Nat → Option ρ} {c p : Bool} {x : ρ}
theorem evx_chk (ha : Rns A p x) : Rns (fun f => bif c then A f else B f) (c && p) x := by
  cases c
  · intro h; cases h
  · exact ha
theorem evx_chk1 (ha : Rns A true x) : Rns (fun f => bif c then A f else B f) c x := by
  cases c
  · intro h; cases h
  · exact ha
theorem evx_chn (hb : Rns B p x) : Rns (fun f => bif c then A f else B f) (!c && p) x := by
  cases c
  · exact hb
  · intro h; cases h
theorem evx_chn1 (hb : Rns B true x) : Rns (fun f => bif c then A f else B f) (!c) x := by
  cases c
  · exact hb
  · intro h; cases h
end
noncomputable def C_wlk : Cfg := ⟨Try.prog, [E_vval, E_geom, E_vcap, E_pva, E_find, E_pix, E_mapg], pmT [(14, ([(0, []), (1, []), (2, []), (3, []), (4, []), (5, []), (6, []), (7, []), (8, []), (9, []), (10, []), (11, []), (12, []), (13, []), (14, []), (15, []), (16, []), (17, []), (18, []), (19, []), (20, [])], [(72, 92)])), (16, ([(0, []), (1, []), (2, []), (3, []), (4, []), (5, []), (6, []), (7, []), (8, []), (9, []), (10, []), (11, []), (12, []), (13, []), (14, [])], [(16, 17), (94, 106)])), (22, ([(0, []), (1, []), (4, []), (2, [5]), (3, [5]), (5, []), (6, []), (7, [])], [(131, 136)]))], 140, [], []⟩
theorem es_wlk : EsOk Try.prog [E_vval, E_geom, E_vcap, E_pva, E_find, E_pix, E_mapg] [] := es_cons E_vval_ok (es_cons E_geom_ok (es_cons E_vcap_ok (es_cons E_pva_ok (es_cons E_find_ok (es_cons E_pix_ok (es_cons E_mapg_ok (es_nil)))))))
def Lt_wlk : Nat → LD := ldT [(0, ⟨[], [(0, 0)]⟩)]
noncomputable def M_wlk (f : Nat) (a : (List (SPT)) × SCp × Int) : Option (STr × Int) := (runX (C_wlk) Lt_wlk (Kret Try.prog [.cell 6 45, .tmp 7] [.g tSTr, .v (.int .i64)]) f [.code (bodyOf Try.f21)] (initX [.rd tSPT, .g tSCp, .c (.int .i64)] a) : Option (ResT [.g tSTr, .v (.int .i64)]))
theorem M_wlk_eq (f : Nat) (ts : List (SPT)) (root : SCp) (addr : Int) : M_wlk (f + 1) (ts, root, addr) =
    bif okM ts then bif !tabsB ts then some ((0, 0, 0, 0, [], []), 1) else bif !vcapB root then some ((0, 0, 0, 0, [], []), 5) else bif root.1 != 3 then some ((0, 0, 0, 0, [], []), 5) else bif root.2.2.2.2.2.1 != IntKind.i64.wrap ((geoS root.2.2.2.2.1).1 - 1) then some ((0, 0, 0, 0, [], []), 5) else bif !vaS (root.2.2.2.2.1, addr) then some ((0, 0, 0, 0, [], []), 6) else bif decide (root.2.2.2.2.2.1 ≥ 0) then bif len40n ts then bif !decide (ftS ts root.2.1 ≥ 0) then some ((0, 0, 0, 0, [], []), 13) else bif decide (0 ≤ ftS ts root.2.1) && decide (ftS ts root.2.1 < (↑ts.length : Int)) then bif (taS ts root.2.1).2.1 != root.2.2.2.2.1 then some ((0, 0, 0, 0, [], []), 13) else bif decide (0 ≤ ftS ts root.2.1) && decide (ftS ts root.2.1 < (↑ts.length : Int)) then bif (taS ts root.2.1).2.2.1 != root.2.2.2.2.2.1 then some ((0, 0, 0, 0, [], []), 13) else bif decide (0 ≤ ftS ts root.2.1) && decide (ftS ts root.2.1 < (↑ts.length : Int)) then bif len40n (taS ts root.2.1).2.2.2 then bif !decide (faS ts root.2.2.2.2.1 addr root.2.2.2.2.2.1 root.2.1 ≥ 0) then some ((0, 0, 0, 0, [], []), 13) else bif decide (0 ≤ ftS ts root.2.1) && decide (ftS ts root.2.1 < (↑ts.length : Int)) then bif decide (0 ≤ faS ts root.2.2.2.2.1 addr root.2.2.2.2.2.1 root.2.1) && decide (faS ts root.2.2.2.2.1 addr root.2.2.2.2.2.1 root.2.1 < (↑(List.length (taS ts root.2.1).2.2.2) : Int)) then bif decide (IntKind.i64.wrap (root.2.2.2.2.2.1 - 1) ≥ 0) then bif len40n ts then bif !decide (ftS ts (maS ts root.2.2.2.2.1 addr root.2.2.2.2.2.1 root.2.1).2.1 ≥ 0) then some ((0, 0, 0, 0, [], []), 13) else bif decide (0 ≤ ftS ts (maS ts root.2.2.2.2.1 addr root.2.2.2.2.2.1 root.2.1).2.1) && decide (ftS ts (maS ts root.2.2.2.2.1 addr root.2.2.2.2.2.1 root.2.1).2.1 < (↑ts.length : Int)) then bif (taS ts (maS ts root.2.2.2.2.1 addr root.2.2.2.2.2.1 root.2.1).2.1).2.1 != root.2.2.2.2.1 then some ((0, 0, 0, 0, [], []), 13) else bif decide (0 ≤ ftS ts (maS ts root.2.2.2.2.1 addr root.2.2.2.2.2.1 root.2.1).2.1) && decide (ftS ts (maS ts root.2.2.2.2.1 addr root.2.2.2.2.2.1 root.2.1).2.1 < (↑ts.length : Int)) then bif (taS ts (maS ts root.2.2.2.2.1 addr root.2.2.2.2.2.1 root.2.1).2.1).2.2.1 != IntKind.i64.wrap (root.2.2.2.2.2.1 - 1) then some ((0, 0, 0, 0, [], []), 13) else bif decide (0 ≤ ftS ts (maS ts root.2.2.2.2.1 addr root.2.2.2.2.2.1 root.2.1).2.1) && decide (ftS ts (maS ts root.2.2.2.2.1 addr root.2.2.2.2.2.1 root.2.1).2.1 < (↑ts.length : Int)) then bif len40n (taS ts (maS ts root.2.2.2.2.1 addr root.2.2.2.2.2.1 root.2.1).2.1).2.2.2 then bif !decide (faS ts root.2.2.2.2.1 addr (IntKind.i64.wrap (root.2.2.2.2.2.1 - 1)) (maS ts root.2.2.2.2.1 addr root.2.2.2.2.2.1 root.2.1).2.1 ≥ 0) then some ((0, 0, 0, 0, [], []), 13) else bif decide (0 ≤ ftS ts (maS ts root.2.2.2.2.1 addr root.2.2.2.2.2.1 root.2.1).2.1) && decide (ftS ts (maS ts root.2.2.2.2.1 addr root.2.2.2.2.2.1 root.2.1).2.1 < (↑ts.length : Int)) then bif decide (0 ≤ faS ts root.2.2.2.2.1 addr (IntKind.i64.wrap (root.2.2.2.2.2.1 - 1)) (maS ts root.2.2.2.2.1 addr root.2.2.2.2.2.1 root.2.1).2.1) && decide (faS ts root.2.2.2.2.1 addr (IntKind.i64.wrap (root.2.2.2.2.2.1 - 1)) (maS ts root.2.2.2.2.1 addr root.2.2.2.2.2.1 root.2.1).2.1 < (↑(List.length (taS ts (maS ts root.2.2.2.2.1 addr root.2.2.2.2.2.1 root.2.1).2.1).2.2.2) : Int)) then bif decide (IntKind.i64.wrap (IntKind.i64.wrap (root.2.2.2.2.2.1 - 1) - 1) ≥ 0) then bif len40n ts then bif !decide (ftS ts (maS ts root.2.2.2.2.1 addr (IntKind.i64.wrap (root.2.2.2.2.2.1 - 1)) (maS ts root.2.2.2.2.1 addr root.2.2.2.2.2.1 root.2.1).2.1).2.1 ≥ 0) then some ((0, 0, 0, 0, [], []), 13) else bif decide (0 ≤ ftS ts (maS ts root.2.2.2.2.1 addr (IntKind.i64.wrap (root.2.2.2.2.2.1 - 1)) (maS ts root.2.2.2.2.1 addr root.2.2.2.2.2.1 root.2.1).2.1).2.1) && decide (ftS ts (maS ts root.2.2.2.2.1 addr (IntKind.i64.wrap (root.2.2.2.2.2.1 - 1)) (maS ts root.2.2.2.2.1 addr root.2.2.2.2.2.1 root.2.1).2.1).2.1 < (↑ts.length : Int)) then bif (taS ts (maS ts root.2.2.2.2.1 addr (IntKind.i64.wrap (root.2.2.2.2.2.1 - 1)) (maS ts root.2.2.2.2.1 addr root.2.2.2.2.2.1 root.2.1).2.1).2.1).2.1 != root.2.2.2.2.1 then some ((0, 0, 0, 0, [], []), 13) else bif decide (0 ≤ ftS ts (maS ts root.2.2.2.2.1 addr (IntKind.i64.wrap (root.2.2.2.2.2.1 - 1)) (maS ts root.2.2.2.2.1 addr root.2.2.2.2.2.1 root.2.1).2.1).2.1) && decide (ftS ts (maS ts root.2.2.2.2.1 addr (IntKind.i64.wrap (root.2.2.2.2.2.1 - 1)) (maS ts root.2.2.2.2.1 addr root.2.2.2.2.2.1 root.2.1).2.1).2.1 < (↑ts.length : Int)) then bif (taS ts (maS ts root.2.2.2.2.1 addr (IntKind.i64.wrap (root.2.2.2.2.2.1 - 1)) (maS ts root.2.2.2.2.1 addr root.2.2.2.2.2.1 root.2.1).2.1).2.1).2.2.1 != IntKind.i64.wrap (IntKind.i64.wrap (root.2.2.2.2.2.1 - 1) - 1) then some ((0, 0, 0, 0, [], []), 13) else bif decide (0 ≤ ftS ts (maS ts root.2.2.2.2.1 addr (IntKind.i64.wrap (root.2.2.2.2.2.1 - 1)) (maS ts root.2.2.2.2.1 addr root.2.2.2.2.2.1 root.2.1).2.1).2.1) && decide (ftS ts (maS ts root.2.2.2.2.1 addr (IntKind.i64.wrap (root.2.2.2.2.2.1 - 1)) (maS ts root.2.2.2.2.1 addr root.2.2.2.2.2.1 root.2.1).2.1).2.1 < (↑ts.length : Int)) then bif len40n (taS ts (maS ts root.2.2.2.2.1 addr (IntKind.i64.wrap (root.2.2.2.2.2.1 - 1)) (maS ts root.2.2.2.2.1 addr root.2.2.2.2.2.1 root.2.1).2.1).2.1).2.2.2 then bif !decide (faS ts root.2.2.2.2.1 addr (IntKind.i64.wrap (IntKind.i64.wrap (root.2.2.2.2.2.1 - 1) - 1)) (maS ts root.2.2.2.2.1 addr (IntKind.i64.wrap (root.2.2.2.2.2.1 - 1)) (maS ts root.2.2.2.2.1 addr root.2.2.2.2.2.1 root.2.1).2.1).2.1 ≥ 0) then some ((0, 0, 0, 0, [], []), 13) else bif decide (0 ≤ ftS ts (maS ts root.2.2.2.2.1 addr (IntKind.i64.wrap (root.2.2.2.2.2.1 - 1)) (maS ts root.2.2.2.2.1 addr root.2.2.2.2.2.1 root.2.1).2.1).2.1) && decide (ftS ts (maS ts root.2.2.2.2.1 addr (IntKind.i64.wrap (root.2.2.2.2.2.1 - 1)) (maS ts root.2.2.2.2.1 addr root.2.2.2.2.2.1 root.2.1).2.1).2.1 < (↑ts.length : Int)) then bif decide (0 ≤ faS ts root.2.2.2.2.1 addr (IntKind.i64.wrap (IntKind.i64.wrap (root.2.2.2.2.2.1 - 1) - 1)) (maS ts root.2.2.2.2.1 addr (IntKind.i64.wrap (root.2.2.2.2.2.1 - 1)) (maS ts root.2.2.2.2.1 addr root.2.2.2.2.2.1 root.2.1).2.1).2.1) && decide (faS ts root.2.2.2.2.1 addr (IntKind.i64.wrap (IntKind.i64.wrap (root.2.2.2.2.2.1 - 1) - 1)) (maS ts root.2.2.2.2.1 addr (IntKind.i64.wrap (root.2.2.2.2.2.1 - 1)) (maS ts root.2.2.2.2.1 addr root.2.2.2.2.2.1 root.2.1).2.1).2.1 < (↑(List.length (taS ts (maS ts root.2.2.2.2.1 addr (IntKind.i64.wrap (root.2.2.2.2.2.1 - 1)) (maS ts root.2.2.2.2.1 addr root.2.2.2.2.2.1 root.2.1).2.1).2.1).2.2.2) : Int)) then bif decide (IntKind.i64.wrap (IntKind.i64.wrap (IntKind.i64.wrap (root.2.2.2.2.2.1 - 1) - 1) - 1) ≥ 0) then bif len40n ts then bif !decide (ftS ts (maS ts root.2.2.2.2.1 addr (IntKind.i64.wrap (IntKind.i64.wrap (root.2.2.2.2.2.1 - 1) - 1)) (maS ts root.2.2.2.2.1 addr (IntKind.i64.wrap (root.2.2.2.2.2.1 - 1)) (maS ts root.2.2.2.2.1 addr root.2.2.2.2.2.1 root.2.1).2.1).2.1).2.1 ≥ 0) then some ((0, 0, 0, 0, [], []), 13) else bif decide (0 ≤ ftS ts (maS ts root.2.2.2.2.1 addr (IntKind.i64.wrap (IntKind.i64.wrap (root.2.2.2.2.2.1 - 1) - 1)) (maS ts root.2.2.2.2.1 addr (IntKind.i64.wrap (root.2.2.2.2.2.1 - 1)) (maS ts root.2.2.2.2.1 addr root.2.2.2.2.2.1 root.2.1).2.1).2.1).2.1) && decide (ftS ts (maS ts root.2.2.2.2.1 addr (IntKind.i64.wrap (IntKind.i64.wrap (root.2.2.2.2.2.1 - 1) - 1)) (maS ts root.2.2.2.2.1 addr (IntKind.i64.wrap (root.2.2.2.2.2.1 - 1)) (maS ts root.2.2.2.2.1 addr root.2.2.2.2.2.1 root.2.1).2.1).2.1).2.1 < (↑ts.length : Int)) then bif (taS ts (maS ts root.2.2.2.2.1 addr (IntKind.i64.wrap (IntKind.i64.wrap (root.2.2.2.2.2.1 - 1) - 1)) (maS ts root.2.2.2.2.1 addr (IntKind.i64.wrap (root.2.2.2.2.2.1 - 1)) (maS ts root.2.2.2.2.1 addr root.2.2.2.2.2.1 root.2.1).2.1).2.1).2.1).2.1 != root.2.2.2.2.1 then some ((0, 0, 0, 0, [], []), 13) else bif decide (0 ≤ ftS ts (maS ts root.2.2.2.2.1 addr (IntKind.i64.wrap (IntKind.i64.wrap (root.2.2.2.2.2.1 - 1) - 1)) (maS ts root.2.2.2.2.1 addr (IntKind.i64.wrap (root.2.2.2.2.2.1 - 1)) (maS ts root.2.2.2.2.1 addr root.2.2.2.2.2.1 root.2.1).2.1).2.1).2.1) && decide (ftS ts (maS ts root.2.2.2.2.1 addr (IntKind.i64.wrap (IntKind.i64.wrap (root.2.2.2.2.2.1 - 1) - 1)) (maS ts root.2.2.2.2.1 addr (IntKind.i64.wrap (root.2.2.2.2.2.1 - 1)) (maS ts root.2.2.2.2.1 addr root.2.2.2.2.2.1 root.2.1).2.1).2.1).2.1 < (↑ts.length : Int)) then bif (taS ts (maS ts root.2.2.2.2.1 addr (IntKind.i64.wrap (IntKind.i64.wrap (root.2.2.2.2.2.1 - 1) - 1)) (maS ts root.2.2.2.2.1 addr (IntKind.i64.wrap (root.2.2.2.2.2.1 - 1)) (maS ts root.2.2.2.2.1 addr root.2.2.2.2.2.1 root.2.1).2.1).2.1).2.1).2.2.1 != IntKind.i64.wrap (IntKind.i64.wrap (IntKind.i64.wrap (root.2.2.2.2.2.1 - 1) - 1) - 1) then some ((0, 0, 0, 0, [], []), 13) else bif decide (0 ≤ ftS ts (maS ts root.2.2.2.2.1 addr (IntKind.i64.wrap (IntKind.i64.wrap (root.2.2.2.2.2.1 - 1) - 1)) (maS ts root.2.2.2.2.1 addr (IntKind.i64.wrap (root.2.2.2.2.2.1 - 1)) (maS ts root.2.2.2.2.1 addr root.2.2.2.2.2.1 root.2.1).2.1).2.1).2.1) && decide (ftS ts (maS ts root.2.2.2.2.1 addr (IntKind.i64.wrap (IntKind.i64.wrap (root.2.2.2.2.2.1 - 1) - 1)) (maS ts root.2.2.2.2.1 addr (IntKind.i64.wrap (root.2.2.2.2.2.1 - 1)) (maS ts root.2.2.2.2.1 addr root.2.2.2.2.2.1 root.2.1).2.1).2.1).2.1 < (↑ts.length : Int)) then bif len40n (taS ts (maS ts root.2.2.2.2.1 addr (IntKind.i64.wrap (IntKind.i64.wrap (root.2.2.2.2.2.1 - 1) - 1)) (maS ts root.2.2.2.2.1 addr (IntKind.i64.wrap (root.2.2.2.2.2.1 - 1)) (maS ts root.2.2.2.2.1 addr root.2.2.2.2.2.1 root.2.1).2.1).2.1).2.1).2.2.2 then bif !decide (faS ts root.2.2.2.2.1 addr (IntKind.i64.wrap (IntKind.i64.wrap (IntKind.i64.wrap (root.2.2.2.2.2.1 - 1) - 1) - 1)) (maS ts root.2.2.2.2.1 addr (IntKind.i64.wrap (IntKind.i64.wrap (root.2.2.2.2.2.1 - 1) - 1)) (maS ts root.2.2.2.2.1 addr (IntKind.i64.wrap (root.2.2.2.2.2.1 - 1)) (maS ts root.2.2.2.2.1 addr root.2.2.2.2.2.1 root.2.1).2.1).2.1).2.1 ≥ 0) then some ((0, 0, 0, 0, [], []), 13) else bif decide (0 ≤ ftS ts (maS ts root.2.2.2.2.1 addr (IntKind.i64.wrap (IntKind.i64.wrap (root.2.2.2.2.2.1 - 1) - 1)) (maS ts root.2.2.2.2.1 addr (IntKind.i64.wrap (root.2.2.2.2.2.1 - 1)) (maS ts root.2.2.2.2.1 addr root.2.2.2.2.2.1 root.2.1).2.1).2.1).2.1) && decide (ftS ts (maS ts root.2.2.2.2.1 addr (IntKind.i64.wrap (IntKind.i64.wrap (root.2.2.2.2.2.1 - 1) - 1)) (maS ts root.2.2.2.2.1 addr (IntKind.i64.wrap (root.2.2.2.2.2.1 - 1)) (maS ts root.2.2.2.2.1 addr root.2.2.2.2.2.1 root.2.1).2.1).2.1).2.1 < (↑ts.length : Int)) then bif decide (0 ≤ faS ts root.2.2.2.2.1 addr (IntKind.i64.wrap (IntKind.i64.wrap (IntKind.i64.wrap (root.2.2.2.2.2.1 - 1) - 1) - 1)) (maS ts root.2.2.2.2.1 addr (IntKind.i64.wrap (IntKind.i64.wrap (root.2.2.2.2.2.1 - 1) - 1)) (maS ts root.2.2.2.2.1 addr (IntKind.i64.wrap (root.2.2.2.2.2.1 - 1)) (maS ts root.2.2.2.2.1 addr root.2.2.2.2.2.1 root.2.1).2.1).2.1).2.1) && decide (faS ts root.2.2.2.2.1 addr (IntKind.i64.wrap (IntKind.i64.wrap (IntKind.i64.wrap (root.2.2.2.2.2.1 - 1) - 1) - 1)) (maS ts root.2.2.2.2.1 addr (IntKind.i64.wrap (IntKind.i64.wrap (root.2.2.2.2.2.1 - 1) - 1)) (maS ts root.2.2.2.2.1 addr (IntKind.i64.wrap (root.2.2.2.2.2.1 - 1)) (maS ts root.2.2.2.2.1 addr root.2.2.2.2.2.1 root.2.1).2.1).2.1).2.1 < (↑(List.length (taS ts (maS ts root.2.2.2.2.1 addr (IntKind.i64.wrap (IntKind.i64.wrap (root.2.2.2.2.2.1 - 1) - 1)) (maS ts root.2.2.2.2.1 addr (IntKind.i64.wrap (root.2.2.2.2.2.1 - 1)) (maS ts root.2.2.2.2.1 addr root.2.2.2.2.2.1 root.2.1).2.1).2.1).2.1).2.2.2) : Int)) then none else none else none else none else none else none else none else none else some ((root.2.1, addr.fdiv (2 ^ min (Int.toNat 12) IntKind.i64.bits), (maS ts root.2.2.2.2.1 addr (IntKind.i64.wrap (IntKind.i64.wrap (root.2.2.2.2.2.1 - 1) - 1)) (maS ts root.2.2.2.2.1 addr (IntKind.i64.wrap (root.2.2.2.2.2.1 - 1)) (maS ts root.2.2.2.2.1 addr root.2.2.2.2.2.1 root.2.1).2.1).2.1).2.1, (maS ts root.2.2.2.2.1 addr (IntKind.i64.wrap (IntKind.i64.wrap (root.2.2.2.2.2.1 - 1) - 1)) (maS ts root.2.2.2.2.1 addr (IntKind.i64.wrap (root.2.2.2.2.2.1 - 1)) (maS ts root.2.2.2.2.1 addr root.2.2.2.2.2.1 root.2.1).2.1).2.1).2.2.1, [(maS ts root.2.2.2.2.1 addr root.2.2.2.2.2.1 root.2.1).2.2.2] ++ [(maS ts root.2.2.2.2.1 addr (IntKind.i64.wrap (root.2.2.2.2.2.1 - 1)) (maS ts root.2.2.2.2.1 addr root.2.2.2.2.2.1 root.2.1).2.1).2.2.2] ++ [(maS ts root.2.2.2.2.1 addr (IntKind.i64.wrap (IntKind.i64.wrap (root.2.2.2.2.2.1 - 1) - 1)) (maS ts root.2.2.2.2.1 addr (IntKind.i64.wrap (root.2.2.2.2.2.1 - 1)) (maS ts root.2.2.2.2.1 addr root.2.2.2.2.2.1 root.2.1).2.1).2.1).2.2.2], [root.2.1] ++ [(maS ts root.2.2.2.2.1 addr root.2.2.2.2.2.1 root.2.1).2.1] ++ [(maS ts root.2.2.2.2.1 addr (IntKind.i64.wrap (root.2.2.2.2.2.1 - 1)) (maS ts root.2.2.2.2.1 addr root.2.2.2.2.2.1 root.2.1).2.1).2.1]), 0) else none else none else none else none else none else none else none else some ((root.2.1, addr.fdiv (2 ^ min (Int.toNat 12) IntKind.i64.bits), (maS ts root.2.2.2.2.1 addr (IntKind.i64.wrap (root.2.2.2.2.2.1 - 1)) (maS ts root.2.2.2.2.1 addr root.2.2.2.2.2.1 root.2.1).2.1).2.1, (maS ts root.2.2.2.2.1 addr (IntKind.i64.wrap (root.2.2.2.2.2.1 - 1)) (maS ts root.2.2.2.2.1 addr root.2.2.2.2.2.1 root.2.1).2.1).2.2.1, [(maS ts root.2.2.2.2.1 addr root.2.2.2.2.2.1 root.2.1).2.2.2] ++ [(maS ts root.2.2.2.2.1 addr (IntKind.i64.wrap (root.2.2.2.2.2.1 - 1)) (maS ts root.2.2.2.2.1 addr root.2.2.2.2.2.1 root.2.1).2.1).2.2.2], [root.2.1] ++ [(maS ts root.2.2.2.2.1 addr root.2.2.2.2.2.1 root.2.1).2.1]), 0) else none else none else none else none else none else none else none else some ((root.2.1, addr.fdiv (2 ^ min (Int.toNat 12) IntKind.i64.bits), (maS ts root.2.2.2.2.1 addr root.2.2.2.2.2.1 root.2.1).2.1, (maS ts root.2.2.2.2.1 addr root.2.2.2.2.2.1 root.2.1).2.2.1, [(maS ts root.2.2.2.2.1 addr root.2.2.2.2.2.1 root.2.1).2.2.2], [root.2.1]), 0) else none else none else none else none else none else none else none else some ((root.2.1, addr.fdiv (2 ^ min (Int.toNat 12) IntKind.i64.bits), 0, 0, [], []), 0) else none := by kernel_rfl
noncomputable def F_wlk : ((List (SPT)) × SCp × Int) → STr × Int
  | (ts, root, addr) => bif !tabsB ts then ((0, 0, 0, 0, [], []), 1) else bif !vcapB root then ((0, 0, 0, 0, [], []), 5) else bif root.1 != 3 then ((0, 0, 0, 0, [], []), 5) else bif root.2.2.2.2.2.1 != IntKind.i64.wrap ((geoS root.2.2.2.2.1).1 - 1) then ((0, 0, 0, 0, [], []), 5) else bif !vaS (root.2.2.2.2.1, addr) then ((0, 0, 0, 0, [], []), 6) else bif decide (root.2.2.2.2.2.1 ≥ 0) then bif !decide (ftS ts root.2.1 ≥ 0) then ((0, 0, 0, 0, [], []), 13) else bif (taS ts root.2.1).2.1 != root.2.2.2.2.1 then ((0, 0, 0, 0, [], []), 13) else bif (taS ts root.2.1).2.2.1 != root.2.2.2.2.2.1 then ((0, 0, 0, 0, [], []), 13) else bif !decide (faS ts root.2.2.2.2.1 addr root.2.2.2.2.2.1 root.2.1 ≥ 0) then ((0, 0, 0, 0, [], []), 13) else bif decide (IntKind.i64.wrap (root.2.2.2.2.2.1 - 1) ≥ 0) then bif !decide (ftS ts (maS ts root.2.2.2.2.1 addr root.2.2.2.2.2.1 root.2.1).2.1 ≥ 0) then ((0, 0, 0, 0, [], []), 13) else bif (taS ts (maS ts root.2.2.2.2.1 addr root.2.2.2.2.2.1 root.2.1).2.1).2.1 != root.2.2.2.2.1 then ((0, 0, 0, 0, [], []), 13) else bif (taS ts (maS ts root.2.2.2.2.1 addr root.2.2.2.2.2.1 root.2.1).2.1).2.2.1 != IntKind.i64.wrap (root.2.2.2.2.2.1 - 1) then ((0, 0, 0, 0, [], []), 13) else bif !decide (faS ts root.2.2.2.2.1 addr (IntKind.i64.wrap (root.2.2.2.2.2.1 - 1)) (maS ts root.2.2.2.2.1 addr root.2.2.2.2.2.1 root.2.1).2.1 ≥ 0) then ((0, 0, 0, 0, [], []), 13) else bif decide (IntKind.i64.wrap (IntKind.i64.wrap (root.2.2.2.2.2.1 - 1) - 1) ≥ 0) then bif !decide (ftS ts (maS ts root.2.2.2.2.1 addr (IntKind.i64.wrap (root.2.2.2.2.2.1 - 1)) (maS ts root.2.2.2.2.1 addr root.2.2.2.2.2.1 root.2.1).2.1).2.1 ≥ 0) then ((0, 0, 0, 0, [], []), 13) else bif (taS ts (maS ts root.2.2.2.2.1 addr (IntKind.i64.wrap (root.2.2.2.2.2.1 - 1)) (maS ts root.2.2.2.2.1 addr root.2.2.2.2.2.1 root.2.1).2.1).2.1).2.1 != root.2.2.2.2.1 then ((0, 0, 0, 0, [], []), 13) else bif (taS ts (maS ts root.2.2.2.2.1 addr (IntKind.i64.wrap (root.2.2.2.2.2.1 - 1)) (maS ts root.2.2.2.2.1 addr root.2.2.2.2.2.1 root.2.1).2.1).2.1).2.2.1 != IntKind.i64.wrap (IntKind.i64.wrap (root.2.2.2.2.2.1 - 1) - 1) then ((0, 0, 0, 0, [], []), 13) else bif !decide (faS ts root.2.2.2.2.1 addr (IntKind.i64.wrap (IntKind.i64.wrap (root.2.2.2.2.2.1 - 1) - 1)) (maS ts root.2.2.2.2.1 addr (IntKind.i64.wrap (root.2.2.2.2.2.1 - 1)) (maS ts root.2.2.2.2.1 addr root.2.2.2.2.2.1 root.2.1).2.1).2.1 ≥ 0) then ((0, 0, 0, 0, [], []), 13) else bif decide (IntKind.i64.wrap (IntKind.i64.wrap (IntKind.i64.wrap (root.2.2.2.2.2.1 - 1) - 1) - 1) ≥ 0) then bif !decide (ftS ts (maS ts root.2.2.2.2.1 addr (IntKind.i64.wrap (IntKind.i64.wrap (root.2.2.2.2.2.1 - 1) - 1)) (maS ts root.2.2.2.2.1 addr (IntKind.i64.wrap (root.2.2.2.2.2.1 - 1)) (maS ts root.2.2.2.2.1 addr root.2.2.2.2.2.1 root.2.1).2.1).2.1).2.1 ≥ 0) then ((0, 0, 0, 0, [], []), 13) else bif (taS ts (maS ts root.2.2.2.2.1 addr (IntKind.i64.wrap (IntKind.i64.wrap (root.2.2.2.2.2.1 - 1) - 1)) (maS ts root.2.2.2.2.1 addr (IntKind.i64.wrap (root.2.2.2.2.2.1 - 1)) (maS ts root.2.2.2.2.1 addr root.2.2.2.2.2.1 root.2.1).2.1).2.1).2.1).2.1 != root.2.2.2.2.1 then ((0, 0, 0, 0, [], []), 13) else bif (taS ts (maS ts root.2.2.2.2.1 addr (IntKind.i64.wrap (IntKind.i64.wrap (root.2.2.2.2.2.1 - 1) - 1)) (maS ts root.2.2.2.2.1 addr (IntKind.i64.wrap (root.2.2.2.2.2.1 - 1)) (maS ts root.2.2.2.2.1 addr root.2.2.2.2.2.1 root.2.1).2.1).2.1).2.1).2.2.1 != IntKind.i64.wrap (IntKind.i64.wrap (IntKind.i64.wrap (root.2.2.2.2.2.1 - 1) - 1) - 1) then ((0, 0, 0, 0, [], []), 13) else ((0, 0, 0, 0, [], []), 13) else ((root.2.1, addr.fdiv (2 ^ min (Int.toNat 12) IntKind.i64.bits), (maS ts root.2.2.2.2.1 addr (IntKind.i64.wrap (IntKind.i64.wrap (root.2.2.2.2.2.1 - 1) - 1)) (maS ts root.2.2.2.2.1 addr (IntKind.i64.wrap (root.2.2.2.2.2.1 - 1)) (maS ts root.2.2.2.2.1 addr root.2.2.2.2.2.1 root.2.1).2.1).2.1).2.1, (maS ts root.2.2.2.2.1 addr (IntKind.i64.wrap (IntKind.i64.wrap (root.2.2.2.2.2.1 - 1) - 1)) (maS ts root.2.2.2.2.1 addr (IntKind.i64.wrap (root.2.2.2.2.2.1 - 1)) (maS ts root.2.2.2.2.1 addr root.2.2.2.2.2.1 root.2.1).2.1).2.1).2.2.1, [(maS ts root.2.2.2.2.1 addr root.2.2.2.2.2.1 root.2.1).2.2.2] ++ [(maS ts root.2.2.2.2.1 addr (IntKind.i64.wrap (root.2.2.2.2.2.1 - 1)) (maS ts root.2.2.2.2.1 addr root.2.2.2.2.2.1 root.2.1).2.1).2.2.2] ++ [(maS ts root.2.2.2.2.1 addr (IntKind.i64.wrap (IntKind.i64.wrap (root.2.2.2.2.2.1 - 1) - 1)) (maS ts root.2.2.2.2.1 addr (IntKind.i64.wrap (root.2.2.2.2.2.1 - 1)) (maS ts root.2.2.2.2.1 addr root.2.2.2.2.2.1 root.2.1).2.1).2.1).2.2.2], [root.2.1] ++ [(maS ts root.2.2.2.2.1 addr root.2.2.2.2.2.1 root.2.1).2.1] ++ [(maS ts root.2.2.2.2.1 addr (IntKind.i64.wrap (root.2.2.2.2.2.1 - 1)) (maS ts root.2.2.2.2.1 addr root.2.2.2.2.2.1 root.2.1).2.1).2.1]), 0) else ((root.2.1, addr.fdiv (2 ^ min (Int.toNat 12) IntKind.i64.bits), (maS ts root.2.2.2.2.1 addr (IntKind.i64.wrap (root.2.2.2.2.2.1 - 1)) (maS ts root.2.2.2.2.1 addr root.2.2.2.2.2.1 root.2.1).2.1).2.1, (maS ts root.2.2.2.2.1 addr (IntKind.i64.wrap (root.2.2.2.2.2.1 - 1)) (maS ts root.2.2.2.2.1 addr root.2.2.2.2.2.1 root.2.1).2.1).2.2.1, [(maS ts root.2.2.2.2.1 addr root.2.2.2.2.2.1 root.2.1).2.2.2] ++ [(maS ts root.2.2.2.2.1 addr (IntKind.i64.wrap (root.2.2.2.2.2.1 - 1)) (maS ts root.2.2.2.2.1 addr root.2.2.2.2.2.1 root.2.1).2.1).2.2.2], [root.2.1] ++ [(maS ts root.2.2.2.2.1 addr root.2.2.2.2.2.1 root.2.1).2.1]), 0) else ((root.2.1, addr.fdiv (2 ^ min (Int.toNat 12) IntKind.i64.bits), (maS ts root.2.2.2.2.1 addr root.2.2.2.2.2.1 root.2.1).2.1, (maS ts root.2.2.2.2.1 addr root.2.2.2.2.2.1 root.2.1).2.2.1, [(maS ts root.2.2.2.2.1 addr root.2.2.2.2.2.1 root.2.1).2.2.2], [root.2.1]), 0) else ((root.2.1, addr.fdiv (2 ^ min (Int.toNat 12) IntKind.i64.bits), 0, 0, [], []), 0)
noncomputable def P_wlk : ((List (SPT)) × SCp × Int) → Bool
  | (ts, root, addr) => okM ts && bif !tabsB ts then true else bif !vcapB root then true else bif root.1 != 3 then true else bif root.2.2.2.2.2.1 != IntKind.i64.wrap ((geoS root.2.2.2.2.1).1 - 1) then true else bif !vaS (root.2.2.2.2.1, addr) then true else bif decide (root.2.2.2.2.2.1 ≥ 0) then len40n ts && bif !decide (ftS ts root.2.1 ≥ 0) then true else decide (0 ≤ ftS ts root.2.1) && decide (ftS ts root.2.1 < (↑ts.length : Int)) && bif (taS ts root.2.1).2.1 != root.2.2.2.2.1 then true else decide (0 ≤ ftS ts root.2.1) && decide (ftS ts root.2.1 < (↑ts.length : Int)) && bif (taS ts root.2.1).2.2.1 != root.2.2.2.2.2.1 then true else decide (0 ≤ ftS ts root.2.1) && decide (ftS ts root.2.1 < (↑ts.length : Int)) && (len40n (taS ts root.2.1).2.2.2 && bif !decide (faS ts root.2.2.2.2.1 addr root.2.2.2.2.2.1 root.2.1 ≥ 0) then true else decide (0 ≤ ftS ts root.2.1) && decide (ftS ts root.2.1 < (↑ts.length : Int)) && (decide (0 ≤ faS ts root.2.2.2.2.1 addr root.2.2.2.2.2.1 root.2.1) && decide (faS ts root.2.2.2.2.1 addr root.2.2.2.2.2.1 root.2.1 < (↑(List.length (taS ts root.2.1).2.2.2) : Int)) && bif decide (IntKind.i64.wrap (root.2.2.2.2.2.1 - 1) ≥ 0) then len40n ts && bif !decide (ftS ts (maS ts root.2.2.2.2.1 addr root.2.2.2.2.2.1 root.2.1).2.1 ≥ 0) then true else decide (0 ≤ ftS ts (maS ts root.2.2.2.2.1 addr root.2.2.2.2.2.1 root.2.1).2.1) && decide (ftS ts (maS ts root.2.2.2.2.1 addr root.2.2.2.2.2.1 root.2.1).2.1 < (↑ts.length : Int)) && bif (taS ts (maS ts root.2.2.2.2.1 addr root.2.2.2.2.2.1 root.2.1).2.1).2.1 != root.2.2.2.2.1 then true else decide (0 ≤ ftS ts (maS ts root.2.2.2.2.1 addr root.2.2.2.2.2.1 root.2.1).2.1) && decide (ftS ts (maS ts root.2.2.2.2.1 addr root.2.2.2.2.2.1 root.2.1).2.1 < (↑ts.length : Int)) && bif (taS ts (maS ts root.2.2.2.2.1 addr root.2.2.2.2.2.1 root.2.1).2.1).2.2.1 != IntKind.i64.wrap (root.2.2.2.2.2.1 - 1) then true else decide (0 ≤ ftS ts (maS ts root.2.2.2.2.1 addr root.2.2.2.2.2.1 root.2.1).2.1) && decide (ftS ts (maS ts root.2.2.2.2.1 addr root.2.2.2.2.2.1 root.2.1).2.1 < (↑ts.length : Int)) && (len40n (taS ts (maS ts root.2.2.2.2.1 addr root.2.2.2.2.2.1 root.2.1).2.1).2.2.2 && bif !decide (faS ts root.2.2.2.2.1 addr (IntKind.i64.wrap (root.2.2.2.2.2.1 - 1)) (maS ts root.2.2.2.2.1 addr root.2.2.2.2.2.1 root.2.1).2.1 ≥ 0) then true else decide (0 ≤ ftS ts (maS ts root.2.2.2.2.1 addr root.2.2.2.2.2.1 root.2.1).2.1) && decide (ftS ts (maS ts root.2.2.2.2.1 addr root.2.2.2.2.2.1 root.2.1).2.1 < (↑ts.length : Int)) && (decide (0 ≤ faS ts root.2.2.2.2.1 addr (IntKind.i64.wrap (root.2.2.2.2.2.1 - 1)) (maS ts root.2.2.2.2.1 addr root.2.2.2.2.2.1 root.2.1).2.1) && decide (faS ts root.2.2.2.2.1 addr (IntKind.i64.wrap (root.2.2.2.2.2.1 - 1)) (maS ts root.2.2.2.2.1 addr root.2.2.2.2.2.1 root.2.1).2.1 < (↑(List.length (taS ts (maS ts root.2.2.2.2.1 addr root.2.2.2.2.2.1 root.2.1).2.1).2.2.2) : Int)) && bif decide (IntKind.i64.wrap (IntKind.i64.wrap (root.2.2.2.2.2.1 - 1) - 1) ≥ 0) then len40n ts && bif !decide (ftS ts (maS ts root.2.2.2.2.1 addr (IntKind.i64.wrap (root.2.2.2.2.2.1 - 1)) (maS ts root.2.2.2.2.1 addr root.2.2.2.2.2.1 root.2.1).2.1).2.1 ≥ 0) then true else decide (0 ≤ ftS ts (maS ts root.2.2.2.2.1 addr (IntKind.i64.wrap (root.2.2.2.2.2.1 - 1)) (maS ts root.2.2.2.2.1 addr root.2.2.2.2.2.1 root.2.1).2.1).2.1) && decide (ftS ts (maS ts root.2.2.2.2.1 addr (IntKind.i64.wrap (root.2.2.2.2.2.1 - 1)) (maS ts root.2.2.2.2.1 addr root.2.2.2.2.2.1 root.2.1).2.1).2.1 < (↑ts.length : Int)) && bif (taS ts (maS ts root.2.2.2.2.1 addr (IntKind.i64.wrap (root.2.2.2.2.2.1 - 1)) (maS ts root.2.2.2.2.1 addr root.2.2.2.2.2.1 root.2.1).2.1).2.1).2.1 != root.2.2.2.2.1 then true else decide (0 ≤ ftS ts (maS ts root.2.2.2.2.1 addr (IntKind.i64.wrap (root.2.2.2.2.2.1 - 1)) (maS ts root.2.2.2.2.1 addr root.2.2.2.2.2.1 root.2.1).2.1).2.1) && decide (ftS ts (maS ts root.2.2.2.2.1 addr (IntKind.i64.wrap (root.2.2.2.2.2.1 - 1)) (maS ts root.2.2.2.2.1 addr root.2.2.2.2.2.1 root.2.1).2.1).2.1 < (↑ts.length : Int)) && bif (taS ts (maS ts root.2.2.2.2.1 addr (IntKind.i64.wrap (root.2.2.2.2.2.1 - 1)) (maS ts root.2.2.2.2.1 addr root.2.2.2.2.2.1 root.2.1).2.1).2.1).2.2.1 != IntKind.i64.wrap (IntKind.i64.wrap (root.2.2.2.2.2.1 - 1) - 1) then true else decide (0 ≤ ftS ts (maS ts root.2.2.2.2.1 addr (IntKind.i64.wrap (root.2.2.2.2.2.1 - 1)) (maS ts root.2.2.2.2.1 addr root.2.2.2.2.2.1 root.2.1).2.1).2.1) && decide (ftS ts (maS ts root.2.2.2.2.1 addr (IntKind.i64.wrap (root.2.2.2.2.2.1 - 1)) (maS ts root.2.2.2.2.1 addr root.2.2.2.2.2.1 root.2.1).2.1).2.1 < (↑ts.length : Int)) && (len40n (taS ts (maS ts root.2.2.2.2.1 addr (IntKind.i64.wrap (root.2.2.2.2.2.1 - 1)) (maS ts root.2.2.2.2.1 addr root.2.2.2.2.2.1 root.2.1).2.1).2.1).2.2.2 && bif !decide (faS ts root.2.2.2.2.1 addr (IntKind.i64.wrap (IntKind.i64.wrap (root.2.2.2.2.2.1 - 1) - 1)) (maS ts root.2.2.2.2.1 addr (IntKind.i64.wrap (root.2.2.2.2.2.1 - 1)) (maS ts root.2.2.2.2.1 addr root.2.2.2.2.2.1 root.2.1).2.1).2.1 ≥ 0) then true else decide (0 ≤ ftS ts (maS ts root.2.2.2.2.1 addr (IntKind.i64.wrap (root.2.2.2.2.2.1 - 1)) (maS ts root.2.2.2.2.1 addr root.2.2.2.2.2.1 root.2.1).2.1).2.1) && decide (ftS ts (maS ts root.2.2.2.2.1 addr (IntKind.i64.wrap (root.2.2.2.2.2.1 - 1)) (maS ts root.2.2.2.2.1 addr root.2.2.2.2.2.1 root.2.1).2.1).2.1 < (↑ts.length : Int)) && (decide (0 ≤ faS ts root.2.2.2.2.1 addr (IntKind.i64.wrap (IntKind.i64.wrap (root.2.2.2.2.2.1 - 1) - 1)) (maS ts root.2.2.2.2.1 addr (IntKind.i64.wrap (root.2.2.2.2.2.1 - 1)) (maS ts root.2.2.2.2.1 addr root.2.2.2.2.2.1 root.2.1).2.1).2.1) && decide (faS ts root.2.2.2.2.1 addr (IntKind.i64.wrap (IntKind.i64.wrap (root.2.2.2.2.2.1 - 1) - 1)) (maS ts root.2.2.2.2.1 addr (IntKind.i64.wrap (root.2.2.2.2.2.1 - 1)) (maS ts root.2.2.2.2.1 addr root.2.2.2.2.2.1 root.2.1).2.1).2.1 < (↑(List.length (taS ts (maS ts root.2.2.2.2.1 addr (IntKind.i64.wrap (root.2.2.2.2.2.1 - 1)) (maS ts root.2.2.2.2.1 addr root.2.2.2.2.2.1 root.2.1).2.1).2.1).2.2.2) : Int)) && bif decide (IntKind.i64.wrap (IntKind.i64.wrap (IntKind.i64.wrap (root.2.2.2.2.2.1 - 1) - 1) - 1) ≥ 0) then len40n ts && bif !decide (ftS ts (maS ts root.2.2.2.2.1 addr (IntKind.i64.wrap (IntKind.i64.wrap (root.2.2.2.2.2.1 - 1) - 1)) (maS ts root.2.2.2.2.1 addr (IntKind.i64.wrap (root.2.2.2.2.2.1 - 1)) (maS ts root.2.2.2.2.1 addr root.2.2.2.2.2.1 root.2.1).2.1).2.1).2.1 ≥ 0) then true else decide (0 ≤ ftS ts (maS ts root.2.2.2.2.1 addr (IntKind.i64.wrap (IntKind.i64.wrap (root.2.2.2.2.2.1 - 1) - 1)) (maS ts root.2.2.2.2.1 addr (IntKind.i64.wrap (root.2.2.2.2.2.1 - 1)) (maS ts root.2.2.2.2.1 addr root.2.2.2.2.2.1 root.2.1).2.1).2.1).2.1) && decide (ftS ts (maS ts root.2.2.2.2.1 addr (IntKind.i64.wrap (IntKind.i64.wrap (root.2.2.2.2.2.1 - 1) - 1)) (maS ts root.2.2.2.2.1 addr (IntKind.i64.wrap (root.2.2.2.2.2.1 - 1)) (maS ts root.2.2.2.2.1 addr root.2.2.2.2.2.1 root.2.1).2.1).2.1).2.1 < (↑ts.length : Int)) && bif (taS ts (maS ts root.2.2.2.2.1 addr (IntKind.i64.wrap (IntKind.i64.wrap (root.2.2.2.2.2.1 - 1) - 1)) (maS ts root.2.2.2.2.1 addr (IntKind.i64.wrap (root.2.2.2.2.2.1 - 1)) (maS ts root.2.2.2.2.1 addr root.2.2.2.2.2.1 root.2.1).2.1).2.1).2.1).2.1 != root.2.2.2.2.1 then true else decide (0 ≤ ftS ts (maS ts root.2.2.2.2.1 addr (IntKind.i64.wrap (IntKind.i64.wrap (root.2.2.2.2.2.1 - 1) - 1)) (maS ts root.2.2.2.2.1 addr (IntKind.i64.wrap (root.2.2.2.2.2.1 - 1)) (maS ts root.2.2.2.2.1 addr root.2.2.2.2.2.1 root.2.1).2.1).2.1).2.1) && decide (ftS ts (maS ts root.2.2.2.2.1 addr (IntKind.i64.wrap (IntKind.i64.wrap (root.2.2.2.2.2.1 - 1) - 1)) (maS ts root.2.2.2.2.1 addr (IntKind.i64.wrap (root.2.2.2.2.2.1 - 1)) (maS ts root.2.2.2.2.1 addr root.2.2.2.2.2.1 root.2.1).2.1).2.1).2.1 < (↑ts.length : Int)) && bif (taS ts (maS ts root.2.2.2.2.1 addr (IntKind.i64.wrap (IntKind.i64.wrap (root.2.2.2.2.2.1 - 1) - 1)) (maS ts root.2.2.2.2.1 addr (IntKind.i64.wrap (root.2.2.2.2.2.1 - 1)) (maS ts root.2.2.2.2.1 addr root.2.2.2.2.2.1 root.2.1).2.1).2.1).2.1).2.2.1 != IntKind.i64.wrap (IntKind.i64.wrap (IntKind.i64.wrap (root.2.2.2.2.2.1 - 1) - 1) - 1) then true else decide (0 ≤ ftS ts (maS ts root.2.2.2.2.1 addr (IntKind.i64.wrap (IntKind.i64.wrap (root.2.2.2.2.2.1 - 1) - 1)) (maS ts root.2.2.2.2.1 addr (IntKind.i64.wrap (root.2.2.2.2.2.1 - 1)) (maS ts root.2.2.2.2.1 addr root.2.2.2.2.2.1 root.2.1).2.1).2.1).2.1) && decide (ftS ts (maS ts root.2.2.2.2.1 addr (IntKind.i64.wrap (IntKind.i64.wrap (root.2.2.2.2.2.1 - 1) - 1)) (maS ts root.2.2.2.2.1 addr (IntKind.i64.wrap (root.2.2.2.2.2.1 - 1)) (maS ts root.2.2.2.2.1 addr root.2.2.2.2.2.1 root.2.1).2.1).2.1).2.1 < (↑ts.length : Int)) && (len40n (taS ts (maS ts root.2.2.2.2.1 addr (IntKind.i64.wrap (IntKind.i64.wrap (root.2.2.2.2.2.1 - 1) - 1)) (maS ts root.2.2.2.2.1 addr (IntKind.i64.wrap (root.2.2.2.2.2.1 - 1)) (maS ts root.2.2.2.2.1 addr root.2.2.2.2.2.1 root.2.1).2.1).2.1).2.1).2.2.2 && !decide (faS ts root.2.2.2.2.1 addr (IntKind.i64.wrap (IntKind.i64.wrap (IntKind.i64.wrap (root.2.2.2.2.2.1 - 1) - 1) - 1)) (maS ts root.2.2.2.2.1 addr (IntKind.i64.wrap (IntKind.i64.wrap (root.2.2.2.2.2.1 - 1) - 1)) (maS ts root.2.2.2.2.1 addr (IntKind.i64.wrap (root.2.2.2.2.2.1 - 1)) (maS ts root.2.2.2.2.1 addr root.2.2.2.2.2.1 root.2.1).2.1).2.1).2.1 ≥ 0)) else true)) else true)) else true)) else true
theorem wlk_auto : ∀ a : (List (SPT)) × SCp × Int, Rns (fun f => M_wlk f a) (P_wlk a) (F_wlk a)
  | (ts, root, addr) => ev_step (fun f => M_wlk_eq f _ _ _) (evx_chk (ev_bif ev_some (ev_bif ev_some (ev_bif ev_some (ev_bif ev_some (ev_bif ev_some (ev_bif (evx_chk (ev_bif ev_some (evx_chk (ev_bif ev_some (evx_chk (ev_bif ev_some (evx_chk (evx_chk (ev_bif ev_some (evx_chk (evx_chk (ev_bif (evx_chk (ev_bif ev_some (evx_chk (ev_bif ev_some (evx_chk (ev_bif ev_some (evx_chk (evx_chk (ev_bif ev_some (evx_chk (evx_chk (ev_bif (evx_chk (ev_bif ev_some (evx_chk (ev_bif ev_some (evx_chk (ev_bif ev_some (evx_chk (evx_chk (ev_bif ev_some (evx_chk (evx_chk (ev_bif (evx_chk (ev_bif ev_some (evx_chk (ev_bif ev_some (evx_chk (ev_bif ev_some (evx_chk (evx_chk (evx_chk1 ev_some))))))))) ev_some)))))))))))) ev_some)))))))))))) ev_some)))))))))))) ev_some)))))))
noncomputable def C_rwlk : Cfg := ⟨Try.prog, [E_rvts, E_rvcap, E_rlvs, E_rva, E_ftab, E_rix, E_fmap, E_cids], pmT [(3, ([(0, []), (1, []), (2, []), (3, []), (4, []), (5, []), (6, []), (7, []), (8, []), (9, []), (10, []), (11, []), (12, []), (13, []), (14, []), (15, []), (16, [])], [(20, 36)])), (13, ([(0, []), (1, []), (2, []), (3, []), (4, []), (5, []), (6, []), (7, []), (8, []), (9, []), (10, []), (11, []), (12, []), (13, []), (14, []), (15, []), (16, []), (17, []), (18, []), (19, []), (20, [])], [(60, 80)])), (15, ([(0, []), (1, []), (2, []), (3, []), (4, []), (5, []), (6, []), (7, []), (8, []), (9, []), (10, [])], [(12, 12), (82, 91)])), (19, ([(0, []), (1, []), (3, []), (4, []), (5, []), (2, []), (6, []), (7, [])], [(14, 14), (103, 109)]))], 129, [], [(110014, tSId)]⟩
theorem es_rwlk : EsOk Try.prog [E_rvts, E_rvcap, E_rlvs, E_rva, E_ftab, E_rix, E_fmap, E_cids] [] := es_cons E_rvts_ok (es_cons E_rvcap_ok (es_cons E_rlvs_ok (es_cons E_rva_ok (es_cons E_ftab_ok (es_cons E_rix_ok (es_cons E_fmap_ok (es_cons E_cids_ok (es_nil))))))))
def Lt_rwlk : Nat → LD := ldT [(0, ⟨[], [(0, 0)]⟩)]
noncomputable def M_rwlk (f : Nat) (a : (List (SPT)) × SCp × Int) : Option (STr × Int) := (runX (C_rwlk) Lt_rwlk (Kret Try.prog [.cell 6 45, .tmp 7] [.g tSTr, .v (.int .i64)]) f [.code (bodyOf Try.f51)] (initX [.rd tSPT, .g tSCp, .c (.int .i64)] a) : Option (ResT [.g tSTr, .v (.int .i64)]))
theorem M_rwlk_eq (f : Nat) (ts : List (SPT)) (root : SCp) (addr : Int) : M_rwlk (f + 1) (ts, root, addr) =
    bif okM ts then bif !tabsB ts then some ((0, 0, 0, 0, [], []), 1) else bif !vcapB root then some ((0, 0, 0, 0, [], []), 5) else bif root.1 != 3 then some ((0, 0, 0, 0, [], []), 5) else bif root.2.2.2.2.2.1 != IntKind.i64.wrap ((geoS root.2.2.2.2.1).1 - 1) then some ((0, 0, 0, 0, [], []), 5) else bif !vaS (root.2.2.2.2.1, addr) then some ((0, 0, 0, 0, [], []), 6) else bif decide (root.2.2.2.2.2.1 ≥ 0) then bif len40n ts then bif decide (ftS ts root.2.1 < 0) then some ((0, 0, 0, 0, [], []), 13) else bif decide (0 ≤ ftS ts root.2.1) && decide (ftS ts root.2.1 < (↑ts.length : Int)) then bif (taS ts root.2.1).2.1 != root.2.2.2.2.1 then some ((0, 0, 0, 0, [], []), 13) else bif decide (0 ≤ ftS ts root.2.1) && decide (ftS ts root.2.1 < (↑ts.length : Int)) then bif (taS ts root.2.1).2.2.1 != root.2.2.2.2.2.1 then some ((0, 0, 0, 0, [], []), 13) else bif decide (0 ≤ ftS ts root.2.1) && decide (ftS ts root.2.1 < (↑ts.length : Int)) then bif len40n (taS ts root.2.1).2.2.2 then bif decide (faS ts root.2.2.2.2.1 addr root.2.2.2.2.2.1 root.2.1 < 0) then some ((0, 0, 0, 0, [], []), 13) else bif decide (0 ≤ ftS ts root.2.1) && decide (ftS ts root.2.1 < (↑ts.length : Int)) then bif decide (0 ≤ faS ts root.2.2.2.2.1 addr root.2.2.2.2.2.1 root.2.1) && decide (faS ts root.2.2.2.2.1 addr root.2.2.2.2.2.1 root.2.1 < (↑(List.length (taS ts root.2.1).2.2.2) : Int)) then bif decide (IntKind.i64.wrap (root.2.2.2.2.2.1 - 1) ≥ 0) then bif len40n ts then bif decide (ftS ts (maS ts root.2.2.2.2.1 addr root.2.2.2.2.2.1 root.2.1).2.1 < 0) then some ((0, 0, 0, 0, [], []), 13) else bif decide (0 ≤ ftS ts (maS ts root.2.2.2.2.1 addr root.2.2.2.2.2.1 root.2.1).2.1) && decide (ftS ts (maS ts root.2.2.2.2.1 addr root.2.2.2.2.2.1 root.2.1).2.1 < (↑ts.length : Int)) then bif (taS ts (maS ts root.2.2.2.2.1 addr root.2.2.2.2.2.1 root.2.1).2.1).2.1 != root.2.2.2.2.1 then some ((0, 0, 0, 0, [], []), 13) else bif decide (0 ≤ ftS ts (maS ts root.2.2.2.2.1 addr root.2.2.2.2.2.1 root.2.1).2.1) && decide (ftS ts (maS ts root.2.2.2.2.1 addr root.2.2.2.2.2.1 root.2.1).2.1 < (↑ts.length : Int)) then bif (taS ts (maS ts root.2.2.2.2.1 addr root.2.2.2.2.2.1 root.2.1).2.1).2.2.1 != IntKind.i64.wrap (root.2.2.2.2.2.1 - 1) then some ((0, 0, 0, 0, [], []), 13) else bif decide (0 ≤ ftS ts (maS ts root.2.2.2.2.1 addr root.2.2.2.2.2.1 root.2.1).2.1) && decide (ftS ts (maS ts root.2.2.2.2.1 addr root.2.2.2.2.2.1 root.2.1).2.1 < (↑ts.length : Int)) then bif len40n (taS ts (maS ts root.2.2.2.2.1 addr root.2.2.2.2.2.1 root.2.1).2.1).2.2.2 then bif decide (faS ts root.2.2.2.2.1 addr (IntKind.i64.wrap (root.2.2.2.2.2.1 - 1)) (maS ts root.2.2.2.2.1 addr root.2.2.2.2.2.1 root.2.1).2.1 < 0) then some ((0, 0, 0, 0, [], []), 13) else bif decide (0 ≤ ftS ts (maS ts root.2.2.2.2.1 addr root.2.2.2.2.2.1 root.2.1).2.1) && decide (ftS ts (maS ts root.2.2.2.2.1 addr root.2.2.2.2.2.1 root.2.1).2.1 < (↑ts.length : Int)) then bif decide (0 ≤ faS ts root.2.2.2.2.1 addr (IntKind.i64.wrap (root.2.2.2.2.2.1 - 1)) (maS ts root.2.2.2.2.1 addr root.2.2.2.2.2.1 root.2.1).2.1) && decide (faS ts root.2.2.2.2.1 addr (IntKind.i64.wrap (root.2.2.2.2.2.1 - 1)) (maS ts root.2.2.2.2.1 addr root.2.2.2.2.2.1 root.2.1).2.1 < (↑(List.length (taS ts (maS ts root.2.2.2.2.1 addr root.2.2.2.2.2.1 root.2.1).2.1).2.2.2) : Int)) then bif decide (IntKind.i64.wrap (IntKind.i64.wrap (root.2.2.2.2.2.1 - 1) - 1) ≥ 0) then bif len40n ts then bif decide (ftS ts (maS ts root.2.2.2.2.1 addr (IntKind.i64.wrap (root.2.2.2.2.2.1 - 1)) (maS ts root.2.2.2.2.1 addr root.2.2.2.2.2.1 root.2.1).2.1).2.1 < 0) then some ((0, 0, 0, 0, [], []), 13) else bif decide (0 ≤ ftS ts (maS ts root.2.2.2.2.1 addr (IntKind.i64.wrap (root.2.2.2.2.2.1 - 1)) (maS ts root.2.2.2.2.1 addr root.2.2.2.2.2.1 root.2.1).2.1).2.1) && decide (ftS ts (maS ts root.2.2.2.2.1 addr (IntKind.i64.wrap (root.2.2.2.2.2.1 - 1)) (maS ts root.2.2.2.2.1 addr root.2.2.2.2.2.1 root.2.1).2.1).2.1 < (↑ts.length : Int)) then bif (taS ts (maS ts root.2.2.2.2.1 addr (IntKind.i64.wrap (root.2.2.2.2.2.1 - 1)) (maS ts root.2.2.2.2.1 addr root.2.2.2.2.2.1 root.2.1).2.1).2.1).2.1 != root.2.2.2.2.1 then some ((0, 0, 0, 0, [], []), 13) else bif decide (0 ≤ ftS ts (maS ts root.2.2.2.2.1 addr (IntKind.i64.wrap (root.2.2.2.2.2.1 - 1)) (maS ts root.2.2.2.2.1 addr root.2.2.2.2.2.1 root.2.1).2.1).2.1) && decide (ftS ts (maS ts root.2.2.2.2.1 addr (IntKind.i64.wrap (root.2.2.2.2.2.1 - 1)) (maS ts root.2.2.2.2.1 addr root.2.2.2.2.2.1 root.2.1).2.1).2.1 < (↑ts.length : Int)) then bif (taS ts (maS ts root.2.2.2.2.1 addr (IntKind.i64.wrap (root.2.2.2.2.2.1 - 1)) (maS ts root.2.2.2.2.1 addr root.2.2.2.2.2.1 root.2.1).2.1).2.1).2.2.1 != IntKind.i64.wrap (IntKind.i64.wrap (root.2.2.2.2.2.1 - 1) - 1) then some ((0, 0, 0, 0, [], []), 13) else bif decide (0 ≤ ftS ts (maS ts root.2.2.2.2.1 addr (IntKind.i64.wrap (root.2.2.2.2.2.1 - 1)) (maS ts root.2.2.2.2.1 addr root.2.2.2.2.2.1 root.2.1).2.1).2.1) && decide (ftS ts (maS ts root.2.2.2.2.1 addr (IntKind.i64.wrap (root.2.2.2.2.2.1 - 1)) (maS ts root.2.2.2.2.1 addr root.2.2.2.2.2.1 root.2.1).2.1).2.1 < (↑ts.length : Int)) then bif len40n (taS ts (maS ts root.2.2.2.2.1 addr (IntKind.i64.wrap (root.2.2.2.2.2.1 - 1)) (maS ts root.2.2.2.2.1 addr root.2.2.2.2.2.1 root.2.1).2.1).2.1).2.2.2 then bif decide (faS ts root.2.2.2.2.1 addr (IntKind.i64.wrap (IntKind.i64.wrap (root.2.2.2.2.2.1 - 1) - 1)) (maS ts root.2.2.2.2.1 addr (IntKind.i64.wrap (root.2.2.2.2.2.1 - 1)) (maS ts root.2.2.2.2.1 addr root.2.2.2.2.2.1 root.2.1).2.1).2.1 < 0) then some ((0, 0, 0, 0, [], []), 13) else bif decide (0 ≤ ftS ts (maS ts root.2.2.2.2.1 addr (IntKind.i64.wrap (root.2.2.2.2.2.1 - 1)) (maS ts root.2.2.2.2.1 addr root.2.2.2.2.2.1 root.2.1).2.1).2.1) && decide (ftS ts (maS ts root.2.2.2.2.1 addr (IntKind.i64.wrap (root.2.2.2.2.2.1 - 1)) (maS ts root.2.2.2.2.1 addr root.2.2.2.2.2.1 root.2.1).2.1).2.1 < (↑ts.length : Int)) then bif decide (0 ≤ faS ts root.2.2.2.2.1 addr (IntKind.i64.wrap (IntKind.i64.wrap (root.2.2.2.2.2.1 - 1) - 1)) (maS ts root.2.2.2.2.1 addr (IntKind.i64.wrap (root.2.2.2.2.2.1 - 1)) (maS ts root.2.2.2.2.1 addr root.2.2.2.2.2.1 root.2.1).2.1).2.1) && decide (faS ts root.2.2.2.2.1 addr (IntKind.i64.wrap (IntKind.i64.wrap (root.2.2.2.2.2.1 - 1) - 1)) (maS ts root.2.2.2.2.1 addr (IntKind.i64.wrap (root.2.2.2.2.2.1 - 1)) (maS ts root.2.2.2.2.1 addr root.2.2.2.2.2.1 root.2.1).2.1).2.1 < (↑(List.length (taS ts (maS ts root.2.2.2.2.1 addr (IntKind.i64.wrap (root.2.2.2.2.2.1 - 1)) (maS ts root.2.2.2.2.1 addr root.2.2.2.2.2.1 root.2.1).2.1).2.1).2.2.2) : Int)) then bif decide (IntKind.i64.wrap (IntKind.i64.wrap (IntKind.i64.wrap (root.2.2.2.2.2.1 - 1) - 1) - 1) ≥ 0) then bif len40n ts then bif decide (ftS ts (maS ts root.2.2.2.2.1 addr (IntKind.i64.wrap (IntKind.i64.wrap (root.2.2.2.2.2.1 - 1) - 1)) (maS ts root.2.2.2.2.1 addr (IntKind.i64.wrap (root.2.2.2.2.2.1 - 1)) (maS ts root.2.2.2.2.1 addr root.2.2.2.2.2.1 root.2.1).2.1).2.1).2.1 < 0) then some ((0, 0, 0, 0, [], []), 13) else bif decide (0 ≤ ftS ts (maS ts root.2.2.2.2.1 addr (IntKind.i64.wrap (IntKind.i64.wrap (root.2.2.2.2.2.1 - 1) - 1)) (maS ts root.2.2.2.2.1 addr (IntKind.i64.wrap (root.2.2.2.2.2.1 - 1)) (maS ts root.2.2.2.2.1 addr root.2.2.2.2.2.1 root.2.1).2.1).2.1).2.1) && decide (ftS ts (maS ts root.2.2.2.2.1 addr (IntKind.i64.wrap (IntKind.i64.wrap (root.2.2.2.2.2.1 - 1) - 1)) (maS ts root.2.2.2.2.1 addr (IntKind.i64.wrap (root.2.2.2.2.2.1 - 1)) (maS ts root.2.2.2.2.1 addr root.2.2.2.2.2.1 root.2.1).2.1).2.1).2.1 < (↑ts.length : Int)) then bif (taS ts (maS ts root.2.2.2.2.1 addr (IntKind.i64.wrap (IntKind.i64.wrap (root.2.2.2.2.2.1 - 1) - 1)) (maS ts root.2.2.2.2.1 addr (IntKind.i64.wrap (root.2.2.2.2.2.1 - 1)) (maS ts root.2.2.2.2.1 addr root.2.2.2.2.2.1 root.2.1).2.1).2.1).2.1).2.1 != root.2.2.2.2.1 then some ((0, 0, 0, 0, [], []), 13) else bif decide (0 ≤ ftS ts (maS ts root.2.2.2.2.1 addr (IntKind.i64.wrap (IntKind.i64.wrap (root.2.2.2.2.2.1 - 1) - 1)) (maS ts root.2.2.2.2.1 addr (IntKind.i64.wrap (root.2.2.2.2.2.1 - 1)) (maS ts root.2.2.2.2.1 addr root.2.2.2.2.2.1 root.2.1).2.1).2.1).2.1) && decide (ftS ts (maS ts root.2.2.2.2.1 addr (IntKind.i64.wrap (IntKind.i64.wrap (root.2.2.2.2.2.1 - 1) - 1)) (maS ts root.2.2.2.2.1 addr (IntKind.i64.wrap (root.2.2.2.2.2.1 - 1)) (maS ts root.2.2.2.2.1 addr root.2.2.2.2.2.1 root.2.1).2.1).2.1).2.1 < (↑ts.length : Int)) then bif (taS ts (maS ts root.2.2.2.2.1 addr (IntKind.i64.wrap (IntKind.i64.wrap (root.2.2.2.2.2.1 - 1) - 1)) (maS ts root.2.2.2.2.1 addr (IntKind.i64.wrap (root.2.2.2.2.2.1 - 1)) (maS ts root.2.2.2.2.1 addr root.2.2.2.2.2.1 root.2.1).2.1).2.1).2.1).2.2.1 != IntKind.i64.wrap (IntKind.i64.wrap (IntKind.i64.wrap (root.2.2.2.2.2.1 - 1) - 1) - 1) then some ((0, 0, 0, 0, [], []), 13) else bif decide (0 ≤ ftS ts (maS ts root.2.2.2.2.1 addr (IntKind.i64.wrap (IntKind.i64.wrap (root.2.2.2.2.2.1 - 1) - 1)) (maS ts root.2.2.2.2.1 addr (IntKind.i64.wrap (root.2.2.2.2.2.1 - 1)) (maS ts root.2.2.2.2.1 addr root.2.2.2.2.2.1 root.2.1).2.1).2.1).2.1) && decide (ftS ts (maS ts root.2.2.2.2.1 addr (IntKind.i64.wrap (IntKind.i64.wrap (root.2.2.2.2.2.1 - 1) - 1)) (maS ts root.2.2.2.2.1 addr (IntKind.i64.wrap (root.2.2.2.2.2.1 - 1)) (maS ts root.2.2.2.2.1 addr root.2.2.2.2.2.1 root.2.1).2.1).2.1).2.1 < (↑ts.length : Int)) then bif len40n (taS ts (maS ts root.2.2.2.2.1 addr (IntKind.i64.wrap (IntKind.i64.wrap (root.2.2.2.2.2.1 - 1) - 1)) (maS ts root.2.2.2.2.1 addr (IntKind.i64.wrap (root.2.2.2.2.2.1 - 1)) (maS ts root.2.2.2.2.1 addr root.2.2.2.2.2.1 root.2.1).2.1).2.1).2.1).2.2.2 then bif decide (faS ts root.2.2.2.2.1 addr (IntKind.i64.wrap (IntKind.i64.wrap (IntKind.i64.wrap (root.2.2.2.2.2.1 - 1) - 1) - 1)) (maS ts root.2.2.2.2.1 addr (IntKind.i64.wrap (IntKind.i64.wrap (root.2.2.2.2.2.1 - 1) - 1)) (maS ts root.2.2.2.2.1 addr (IntKind.i64.wrap (root.2.2.2.2.2.1 - 1)) (maS ts root.2.2.2.2.1 addr root.2.2.2.2.2.1 root.2.1).2.1).2.1).2.1 < 0) then some ((0, 0, 0, 0, [], []), 13) else bif decide (0 ≤ ftS ts (maS ts root.2.2.2.2.1 addr (IntKind.i64.wrap (IntKind.i64.wrap (root.2.2.2.2.2.1 - 1) - 1)) (maS ts root.2.2.2.2.1 addr (IntKind.i64.wrap (root.2.2.2.2.2.1 - 1)) (maS ts root.2.2.2.2.1 addr root.2.2.2.2.2.1 root.2.1).2.1).2.1).2.1) && decide (ftS ts (maS ts root.2.2.2.2.1 addr (IntKind.i64.wrap (IntKind.i64.wrap (root.2.2.2.2.2.1 - 1) - 1)) (maS ts root.2.2.2.2.1 addr (IntKind.i64.wrap (root.2.2.2.2.2.1 - 1)) (maS ts root.2.2.2.2.1 addr root.2.2.2.2.2.1 root.2.1).2.1).2.1).2.1 < (↑ts.length : Int)) then bif decide (0 ≤ faS ts root.2.2.2.2.1 addr (IntKind.i64.wrap (IntKind.i64.wrap (IntKind.i64.wrap (root.2.2.2.2.2.1 - 1) - 1) - 1)) (maS ts root.2.2.2.2.1 addr (IntKind.i64.wrap (IntKind.i64.wrap (root.2.2.2.2.2.1 - 1) - 1)) (maS ts root.2.2.2.2.1 addr (IntKind.i64.wrap (root.2.2.2.2.2.1 - 1)) (maS ts root.2.2.2.2.1 addr root.2.2.2.2.2.1 root.2.1).2.1).2.1).2.1) && decide (faS ts root.2.2.2.2.1 addr (IntKind.i64.wrap (IntKind.i64.wrap (IntKind.i64.wrap (root.2.2.2.2.2.1 - 1) - 1) - 1)) (maS ts root.2.2.2.2.1 addr (IntKind.i64.wrap (IntKind.i64.wrap (root.2.2.2.2.2.1 - 1) - 1)) (maS ts root.2.2.2.2.1 addr (IntKind.i64.wrap (root.2.2.2.2.2.1 - 1)) (maS ts root.2.2.2.2.1 addr root.2.2.2.2.2.1 root.2.1).2.1).2.1).2.1 < (↑(List.length (taS ts (maS ts root.2.2.2.2.1 addr (IntKind.i64.wrap (IntKind.i64.wrap (root.2.2.2.2.2.1 - 1) - 1)) (maS ts root.2.2.2.2.1 addr (IntKind.i64.wrap (root.2.2.2.2.2.1 - 1)) (maS ts root.2.2.2.2.1 addr root.2.2.2.2.2.1 root.2.1).2.1).2.1).2.1).2.2.2) : Int)) then none else none else none else none else none else none else none else none else some ((root.2.1, IntKind.i64.wrap (addr.tdiv 4096), (maS ts root.2.2.2.2.1 addr (IntKind.i64.wrap (IntKind.i64.wrap (root.2.2.2.2.2.1 - 1) - 1)) (maS ts root.2.2.2.2.1 addr (IntKind.i64.wrap (root.2.2.2.2.2.1 - 1)) (maS ts root.2.2.2.2.1 addr root.2.2.2.2.2.1 root.2.1).2.1).2.1).2.1, (maS ts root.2.2.2.2.1 addr (IntKind.i64.wrap (IntKind.i64.wrap (root.2.2.2.2.2.1 - 1) - 1)) (maS ts root.2.2.2.2.1 addr (IntKind.i64.wrap (root.2.2.2.2.2.1 - 1)) (maS ts root.2.2.2.2.1 addr root.2.2.2.2.2.1 root.2.1).2.1).2.1).2.2.1, [] ++ [(maS ts root.2.2.2.2.1 addr root.2.2.2.2.2.1 root.2.1).2.2.2] ++ [(maS ts root.2.2.2.2.1 addr (IntKind.i64.wrap (root.2.2.2.2.2.1 - 1)) (maS ts root.2.2.2.2.1 addr root.2.2.2.2.2.1 root.2.1).2.1).2.2.2] ++ [(maS ts root.2.2.2.2.1 addr (IntKind.i64.wrap (IntKind.i64.wrap (root.2.2.2.2.2.1 - 1) - 1)) (maS ts root.2.2.2.2.1 addr (IntKind.i64.wrap (root.2.2.2.2.2.1 - 1)) (maS ts root.2.2.2.2.1 addr root.2.2.2.2.2.1 root.2.1).2.1).2.1).2.2.2], [] ++ [root.2.1] ++ [(maS ts root.2.2.2.2.1 addr root.2.2.2.2.2.1 root.2.1).2.1] ++ [(maS ts root.2.2.2.2.1 addr (IntKind.i64.wrap (root.2.2.2.2.2.1 - 1)) (maS ts root.2.2.2.2.1 addr root.2.2.2.2.2.1 root.2.1).2.1).2.1]), 0) else none else none else none else none else none else none else none else some ((root.2.1, IntKind.i64.wrap (addr.tdiv 4096), (maS ts root.2.2.2.2.1 addr (IntKind.i64.wrap (root.2.2.2.2.2.1 - 1)) (maS ts root.2.2.2.2.1 addr root.2.2.2.2.2.1 root.2.1).2.1).2.1, (maS ts root.2.2.2.2.1 addr (IntKind.i64.wrap (root.2.2.2.2.2.1 - 1)) (maS ts root.2.2.2.2.1 addr root.2.2.2.2.2.1 root.2.1).2.1).2.2.1, [] ++ [(maS ts root.2.2.2.2.1 addr root.2.2.2.2.2.1 root.2.1).2.2.2] ++ [(maS ts root.2.2.2.2.1 addr (IntKind.i64.wrap (root.2.2.2.2.2.1 - 1)) (maS ts root.2.2.2.2.1 addr root.2.2.2.2.2.1 root.2.1).2.1).2.2.2], [] ++ [root.2.1] ++ [(maS ts root.2.2.2.2.1 addr root.2.2.2.2.2.1 root.2.1).2.1]), 0) else none else none else none else none else none else none else none else some ((root.2.1, IntKind.i64.wrap (addr.tdiv 4096), (maS ts root.2.2.2.2.1 addr root.2.2.2.2.2.1 root.2.1).2.1, (maS ts root.2.2.2.2.1 addr root.2.2.2.2.2.1 root.2.1).2.2.1, [] ++ [(maS ts root.2.2.2.2.1 addr root.2.2.2.2.2.1 root.2.1).2.2.2], [] ++ [root.2.1]), 0) else none else none else none else none else none else none else none else some ((root.2.1, IntKind.i64.wrap (addr.tdiv 4096), 0, 0, [], []), 0) else none := by kernel_rfl
noncomputable def F_rwlk : ((List (SPT)) × SCp × Int) → STr × Int
  | (ts, root, addr) => bif !tabsB ts then ((0, 0, 0, 0, [], []), 1) else bif !vcapB root then ((0, 0, 0, 0, [], []), 5) else bif root.1 != 3 then ((0, 0, 0, 0, [], []), 5) else bif root.2.2.2.2.2.1 != IntKind.i64.wrap ((geoS root.2.2.2.2.1).1 - 1) then ((0, 0, 0, 0, [], []), 5) else bif !vaS (root.2.2.2.2.1, addr) then ((0, 0, 0, 0, [], []), 6) else bif decide (root.2.2.2.2.2.1 ≥ 0) then bif decide (ftS ts root.2.1 < 0) then ((0, 0, 0, 0, [], []), 13) else bif (taS ts root.2.1).2.1 != root.2.2.2.2.1 then ((0, 0, 0, 0, [], []), 13) else bif (taS ts root.2.1).2.2.1 != root.2.2.2.2.2.1 then ((0, 0, 0, 0, [], []), 13) else bif decide (faS ts root.2.2.2.2.1 addr root.2.2.2.2.2.1 root.2.1 < 0) then ((0, 0, 0, 0, [], []), 13) else bif decide (IntKind.i64.wrap (root.2.2.2.2.2.1 - 1) ≥ 0) then bif decide (ftS ts (maS ts root.2.2.2.2.1 addr root.2.2.2.2.2.1 root.2.1).2.1 < 0) then ((0, 0, 0, 0, [], []), 13) else bif (taS ts (maS ts root.2.2.2.2.1 addr root.2.2.2.2.2.1 root.2.1).2.1).2.1 != root.2.2.2.2.1 then ((0, 0, 0, 0, [], []), 13) else bif (taS ts (maS ts root.2.2.2.2.1 addr root.2.2.2.2.2.1 root.2.1).2.1).2.2.1 != IntKind.i64.wrap (root.2.2.2.2.2.1 - 1) then ((0, 0, 0, 0, [], []), 13) else bif decide (faS ts root.2.2.2.2.1 addr (IntKind.i64.wrap (root.2.2.2.2.2.1 - 1)) (maS ts root.2.2.2.2.1 addr root.2.2.2.2.2.1 root.2.1).2.1 < 0) then ((0, 0, 0, 0, [], []), 13) else bif decide (IntKind.i64.wrap (IntKind.i64.wrap (root.2.2.2.2.2.1 - 1) - 1) ≥ 0) then bif decide (ftS ts (maS ts root.2.2.2.2.1 addr (IntKind.i64.wrap (root.2.2.2.2.2.1 - 1)) (maS ts root.2.2.2.2.1 addr root.2.2.2.2.2.1 root.2.1).2.1).2.1 < 0) then ((0, 0, 0, 0, [], []), 13) else bif (taS ts (maS ts root.2.2.2.2.1 addr (IntKind.i64.wrap (root.2.2.2.2.2.1 - 1)) (maS ts root.2.2.2.2.1 addr root.2.2.2.2.2.1 root.2.1).2.1).2.1).2.1 != root.2.2.2.2.1 then ((0, 0, 0, 0, [], []), 13) else bif (taS ts (maS ts root.2.2.2.2.1 addr (IntKind.i64.wrap (root.2.2.2.2.2.1 - 1)) (maS ts root.2.2.2.2.1 addr root.2.2.2.2.2.1 root.2.1).2.1).2.1).2.2.1 != IntKind.i64.wrap (IntKind.i64.wrap (root.2.2.2.2.2.1 - 1) - 1) then ((0, 0, 0, 0, [], []), 13) else bif decide (faS ts root.2.2.2.2.1 addr (IntKind.i64.wrap (IntKind.i64.wrap (root.2.2.2.2.2.1 - 1) - 1)) (maS ts root.2.2.2.2.1 addr (IntKind.i64.wrap (root.2.2.2.2.2.1 - 1)) (maS ts root.2.2.2.2.1 addr root.2.2.2.2.2.1 root.2.1).2.1).2.1 < 0) then ((0, 0, 0, 0, [], []), 13) else bif decide (IntKind.i64.wrap (IntKind.i64.wrap (IntKind.i64.wrap (root.2.2.2.2.2.1 - 1) - 1) - 1) ≥ 0) then bif decide (ftS ts (maS ts root.2.2.2.2.1 addr (IntKind.i64.wrap (IntKind.i64.wrap (root.2.2.2.2.2.1 - 1) - 1)) (maS ts root.2.2.2.2.1 addr (IntKind.i64.wrap (root.2.2.2.2.2.1 - 1)) (maS ts root.2.2.2.2.1 addr root.2.2.2.2.2.1 root.2.1).2.1).2.1).2.1 < 0) then ((0, 0, 0, 0, [], []), 13) else bif (taS ts (maS ts root.2.2.2.2.1 addr (IntKind.i64.wrap (IntKind.i64.wrap (root.2.2.2.2.2.1 - 1) - 1)) (maS ts root.2.2.2.2.1 addr (IntKind.i64.wrap (root.2.2.2.2.2.1 - 1)) (maS ts root.2.2.2.2.1 addr root.2.2.2.2.2.1 root.2.1).2.1).2.1).2.1).2.1 != root.2.2.2.2.1 then ((0, 0, 0, 0, [], []), 13) else bif (taS ts (maS ts root.2.2.2.2.1 addr (IntKind.i64.wrap (IntKind.i64.wrap (root.2.2.2.2.2.1 - 1) - 1)) (maS ts root.2.2.2.2.1 addr (IntKind.i64.wrap (root.2.2.2.2.2.1 - 1)) (maS ts root.2.2.2.2.1 addr root.2.2.2.2.2.1 root.2.1).2.1).2.1).2.1).2.2.1 != IntKind.i64.wrap (IntKind.i64.wrap (IntKind.i64.wrap (root.2.2.2.2.2.1 - 1) - 1) - 1) then ((0, 0, 0, 0, [], []), 13) else ((0, 0, 0, 0, [], []), 13) else ((root.2.1, IntKind.i64.wrap (addr.tdiv 4096), (maS ts root.2.2.2.2.1 addr (IntKind.i64.wrap (IntKind.i64.wrap (root.2.2.2.2.2.1 - 1) - 1)) (maS ts root.2.2.2.2.1 addr (IntKind.i64.wrap (root.2.2.2.2.2.1 - 1)) (maS ts root.2.2.2.2.1 addr root.2.2.2.2.2.1 root.2.1).2.1).2.1).2.1, (maS ts root.2.2.2.2.1 addr (IntKind.i64.wrap (IntKind.i64.wrap (root.2.2.2.2.2.1 - 1) - 1)) (maS ts root.2.2.2.2.1 addr (IntKind.i64.wrap (root.2.2.2.2.2.1 - 1)) (maS ts root.2.2.2.2.1 addr root.2.2.2.2.2.1 root.2.1).2.1).2.1).2.2.1, [] ++ [(maS ts root.2.2.2.2.1 addr root.2.2.2.2.2.1 root.2.1).2.2.2] ++ [(maS ts root.2.2.2.2.1 addr (IntKind.i64.wrap (root.2.2.2.2.2.1 - 1)) (maS ts root.2.2.2.2.1 addr root.2.2.2.2.2.1 root.2.1).2.1).2.2.2] ++ [(maS ts root.2.2.2.2.1 addr (IntKind.i64.wrap (IntKind.i64.wrap (root.2.2.2.2.2.1 - 1) - 1)) (maS ts root.2.2.2.2.1 addr (IntKind.i64.wrap (root.2.2.2.2.2.1 - 1)) (maS ts root.2.2.2.2.1 addr root.2.2.2.2.2.1 root.2.1).2.1).2.1).2.2.2], [] ++ [root.2.1] ++ [(maS ts root.2.2.2.2.1 addr root.2.2.2.2.2.1 root.2.1).2.1] ++ [(maS ts root.2.2.2.2.1 addr (IntKind.i64.wrap (root.2.2.2.2.2.1 - 1)) (maS ts root.2.2.2.2.1 addr root.2.2.2.2.2.1 root.2.1).2.1).2.1]), 0) else ((root.2.1, IntKind.i64.wrap (addr.tdiv 4096), (maS ts root.2.2.2.2.1 addr (IntKind.i64.wrap (root.2.2.2.2.2.1 - 1)) (maS ts root.2.2.2.2.1 addr root.2.2.2.2.2.1 root.2.1).2.1).2.1, (maS ts root.2.2.2.2.1 addr (IntKind.i64.wrap (root.2.2.2.2.2.1 - 1)) (maS ts root.2.2.2.2.1 addr root.2.2.2.2.2.1 root.2.1).2.1).2.2.1, [] ++ [(maS ts root.2.2.2.2.1 addr root.2.2.2.2.2.1 root.2.1).2.2.2] ++ [(maS ts root.2.2.2.2.1 addr (IntKind.i64.wrap (root.2.2.2.2.2.1 - 1)) (maS ts root.2.2.2.2.1 addr root.2.2.2.2.2.1 root.2.1).2.1).2.2.2], [] ++ [root.2.1] ++ [(maS ts root.2.2.2.2.1 addr root.2.2.2.2.2.1 root.2.1).2.1]), 0) else ((root.2.1, IntKind.i64.wrap (addr.tdiv 4096), (maS ts root.2.2.2.2.1 addr root.2.2.2.2.2.1 root.2.1).2.1, (maS ts root.2.2.2.2.1 addr root.2.2.2.2.2.1 root.2.1).2.2.1, [] ++ [(maS ts root.2.2.2.2.1 addr root.2.2.2.2.2.1 root.2.1).2.2.2], [] ++ [root.2.1]), 0) else ((root.2.1, IntKind.i64.wrap (addr.tdiv 4096), 0, 0, [], []), 0)
noncomputable def P_rwlk : ((List (SPT)) × SCp × Int) → Bool
  | (ts, root, addr) => okM ts && bif !tabsB ts then true else bif !vcapB root then true else bif root.1 != 3 then true else bif root.2.2.2.2.2.1 != IntKind.i64.wrap ((geoS root.2.2.2.2.1).1 - 1) then true else bif !vaS (root.2.2.2.2.1, addr) then true else bif decide (root.2.2.2.2.2.1 ≥ 0) then len40n ts && bif decide (ftS ts root.2.1 < 0) then true else decide (0 ≤ ftS ts root.2.1) && decide (ftS ts root.2.1 < (↑ts.length : Int)) && bif (taS ts root.2.1).2.1 != root.2.2.2.2.1 then true else decide (0 ≤ ftS ts root.2.1) && decide (ftS ts root.2.1 < (↑ts.length : Int)) && bif (taS ts root.2.1).2.2.1 != root.2.2.2.2.2.1 then true else decide (0 ≤ ftS ts root.2.1) && decide (ftS ts root.2.1 < (↑ts.length : Int)) && (len40n (taS ts root.2.1).2.2.2 && bif decide (faS ts root.2.2.2.2.1 addr root.2.2.2.2.2.1 root.2.1 < 0) then true else decide (0 ≤ ftS ts root.2.1) && decide (ftS ts root.2.1 < (↑ts.length : Int)) && (decide (0 ≤ faS ts root.2.2.2.2.1 addr root.2.2.2.2.2.1 root.2.1) && decide (faS ts root.2.2.2.2.1 addr root.2.2.2.2.2.1 root.2.1 < (↑(List.length (taS ts root.2.1).2.2.2) : Int)) && bif decide (IntKind.i64.wrap (root.2.2.2.2.2.1 - 1) ≥ 0) then len40n ts && bif decide (ftS ts (maS ts root.2.2.2.2.1 addr root.2.2.2.2.2.1 root.2.1).2.1 < 0) then true else decide (0 ≤ ftS ts (maS ts root.2.2.2.2.1 addr root.2.2.2.2.2.1 root.2.1).2.1) && decide (ftS ts (maS ts root.2.2.2.2.1 addr root.2.2.2.2.2.1 root.2.1).2.1 < (↑ts.length : Int)) && bif (taS ts (maS ts root.2.2.2.2.1 addr root.2.2.2.2.2.1 root.2.1).2.1).2.1 != root.2.2.2.2.1 then true else decide (0 ≤ ftS ts (maS ts root.2.2.2.2.1 addr root.2.2.2.2.2.1 root.2.1).2.1) && decide (ftS ts (maS ts root.2.2.2.2.1 addr root.2.2.2.2.2.1 root.2.1).2.1 < (↑ts.length : Int)) && bif (taS ts (maS ts root.2.2.2.2.1 addr root.2.2.2.2.2.1 root.2.1).2.1).2.2.1 != IntKind.i64.wrap (root.2.2.2.2.2.1 - 1) then true else decide (0 ≤ ftS ts (maS ts root.2.2.2.2.1 addr root.2.2.2.2.2.1 root.2.1).2.1) && decide (ftS ts (maS ts root.2.2.2.2.1 addr root.2.2.2.2.2.1 root.2.1).2.1 < (↑ts.length : Int)) && (len40n (taS ts (maS ts root.2.2.2.2.1 addr root.2.2.2.2.2.1 root.2.1).2.1).2.2.2 && bif decide (faS ts root.2.2.2.2.1 addr (IntKind.i64.wrap (root.2.2.2.2.2.1 - 1)) (maS ts root.2.2.2.2.1 addr root.2.2.2.2.2.1 root.2.1).2.1 < 0) then true else decide (0 ≤ ftS ts (maS ts root.2.2.2.2.1 addr root.2.2.2.2.2.1 root.2.1).2.1) && decide (ftS ts (maS ts root.2.2.2.2.1 addr root.2.2.2.2.2.1 root.2.1).2.1 < (↑ts.length : Int)) && (decide (0 ≤ faS ts root.2.2.2.2.1 addr (IntKind.i64.wrap (root.2.2.2.2.2.1 - 1)) (maS ts root.2.2.2.2.1 addr root.2.2.2.2.2.1 root.2.1).2.1) && decide (faS ts root.2.2.2.2.1 addr (IntKind.i64.wrap (root.2.2.2.2.2.1 - 1)) (maS ts root.2.2.2.2.1 addr root.2.2.2.2.2.1 root.2.1).2.1 < (↑(List.length (taS ts (maS ts root.2.2.2.2.1 addr root.2.2.2.2.2.1 root.2.1).2.1).2.2.2) : Int)) && bif decide (IntKind.i64.wrap (IntKind.i64.wrap (root.2.2.2.2.2.1 - 1) - 1) ≥ 0) then len40n ts && bif decide (ftS ts (maS ts root.2.2.2.2.1 addr (IntKind.i64.wrap (root.2.2.2.2.2.1 - 1)) (maS ts root.2.2.2.2.1 addr root.2.2.2.2.2.1 root.2.1).2.1).2.1 < 0) then true else decide (0 ≤ ftS ts (maS ts root.2.2.2.2.1 addr (IntKind.i64.wrap (root.2.2.2.2.2.1 - 1)) (maS ts root.2.2.2.2.1 addr root.2.2.2.2.2.1 root.2.1).2.1).2.1) && decide (ftS ts (maS ts root.2.2.2.2.1 addr (IntKind.i64.wrap (root.2.2.2.2.2.1 - 1)) (maS ts root.2.2.2.2.1 addr root.2.2.2.2.2.1 root.2.1).2.1).2.1 < (↑ts.length : Int)) && bif (taS ts (maS ts root.2.2.2.2.1 addr (IntKind.i64.wrap (root.2.2.2.2.2.1 - 1)) (maS ts root.2.2.2.2.1 addr root.2.2.2.2.2.1 root.2.1).2.1).2.1).2.1 != root.2.2.2.2.1 then true else decide (0 ≤ ftS ts (maS ts root.2.2.2.2.1 addr (IntKind.i64.wrap (root.2.2.2.2.2.1 - 1)) (maS ts root.2.2.2.2.1 addr root.2.2.2.2.2.1 root.2.1).2.1).2.1) && decide (ftS ts (maS ts root.2.2.2.2.1 addr (IntKind.i64.wrap (root.2.2.2.2.2.1 - 1)) (maS ts root.2.2.2.2.1 addr root.2.2.2.2.2.1 root.2.1).2.1).2.1 < (↑ts.length : Int)) && bif (taS ts (maS ts root.2.2.2.2.1 addr (IntKind.i64.wrap (root.2.2.2.2.2.1 - 1)) (maS ts root.2.2.2.2.1 addr root.2.2.2.2.2.1 root.2.1).2.1).2.1).2.2.1 != IntKind.i64.wrap (IntKind.i64.wrap (root.2.2.2.2.2.1 - 1) - 1) then true else decide (0 ≤ ftS ts (maS ts root.2.2.2.2.1 addr (IntKind.i64.wrap (root.2.2.2.2.2.1 - 1)) (maS ts root.2.2.2.2.1 addr root.2.2.2.2.2.1 root.2.1).2.1).2.1) && decide (ftS ts (maS ts root.2.2.2.2.1 addr (IntKind.i64.wrap (root.2.2.2.2.2.1 - 1)) (maS ts root.2.2.2.2.1 addr root.2.2.2.2.2.1 root.2.1).2.1).2.1 < (↑ts.length : Int)) && (len40n (taS ts (maS ts root.2.2.2.2.1 addr (IntKind.i64.wrap (root.2.2.2.2.2.1 - 1)) (maS ts root.2.2.2.2.1 addr root.2.2.2.2.2.1 root.2.1).2.1).2.1).2.2.2 && bif decide (faS ts root.2.2.2.2.1 addr (IntKind.i64.wrap (IntKind.i64.wrap (root.2.2.2.2.2.1 - 1) - 1)) (maS ts root.2.2.2.2.1 addr (IntKind.i64.wrap (root.2.2.2.2.2.1 - 1)) (maS ts root.2.2.2.2.1 addr root.2.2.2.2.2.1 root.2.1).2.1).2.1 < 0) then true else decide (0 ≤ ftS ts (maS ts root.2.2.2.2.1 addr (IntKind.i64.wrap (root.2.2.2.2.2.1 - 1)) (maS ts root.2.2.2.2.1 addr root.2.2.2.2.2.1 root.2.1).2.1).2.1) && decide (ftS ts (maS ts root.2.2.2.2.1 addr (IntKind.i64.wrap (root.2.2.2.2.2.1 - 1)) (maS ts root.2.2.2.2.1 addr root.2.2.2.2.2.1 root.2.1).2.1).2.1 < (↑ts.length : Int)) && (decide (0 ≤ faS ts root.2.2.2.2.1 addr (IntKind.i64.wrap (IntKind.i64.wrap (root.2.2.2.2.2.1 - 1) - 1)) (maS ts root.2.2.2.2.1 addr (IntKind.i64.wrap (root.2.2.2.2.2.1 - 1)) (maS ts root.2.2.2.2.1 addr root.2.2.2.2.2.1 root.2.1).2.1).2.1) && decide (faS ts root.2.2.2.2.1 addr (IntKind.i64.wrap (IntKind.i64.wrap (root.2.2.2.2.2.1 - 1) - 1)) (maS ts root.2.2.2.2.1 addr (IntKind.i64.wrap (root.2.2.2.2.2.1 - 1)) (maS ts root.2.2.2.2.1 addr root.2.2.2.2.2.1 root.2.1).2.1).2.1 < (↑(List.length (taS ts (maS ts root.2.2.2.2.1 addr (IntKind.i64.wrap (root.2.2.2.2.2.1 - 1)) (maS ts root.2.2.2.2.1 addr root.2.2.2.2.2.1 root.2.1).2.1).2.1).2.2.2) : Int)) && bif decide (IntKind.i64.wrap (IntKind.i64.wrap (IntKind.i64.wrap (root.2.2.2.2.2.1 - 1) - 1) - 1) ≥ 0) then len40n ts && bif decide (ftS ts (maS ts root.2.2.2.2.1 addr (IntKind.i64.wrap (IntKind.i64.wrap (root.2.2.2.2.2.1 - 1) - 1)) (maS ts root.2.2.2.2.1 addr (IntKind.i64.wrap (root.2.2.2.2.2.1 - 1)) (maS ts root.2.2.2.2.1 addr root.2.2.2.2.2.1 root.2.1).2.1).2.1).2.1 < 0) then true else decide (0 ≤ ftS ts (maS ts root.2.2.2.2.1 addr (IntKind.i64.wrap (IntKind.i64.wrap (root.2.2.2.2.2.1 - 1) - 1)) (maS ts root.2.2.2.2.1 addr (IntKind.i64.wrap (root.2.2.2.2.2.1 - 1)) (maS ts root.2.2.2.2.1 addr root.2.2.2.2.2.1 root.2.1).2.1).2.1).2.1) && decide (ftS ts (maS ts root.2.2.2.2.1 addr (IntKind.i64.wrap (IntKind.i64.wrap (root.2.2.2.2.2.1 - 1) - 1)) (maS ts root.2.2.2.2.1 addr (IntKind.i64.wrap (root.2.2.2.2.2.1 - 1)) (maS ts root.2.2.2.2.1 addr root.2.2.2.2.2.1 root.2.1).2.1).2.1).2.1 < (↑ts.length : Int)) && bif (taS ts (maS ts root.2.2.2.2.1 addr (IntKind.i64.wrap (IntKind.i64.wrap (root.2.2.2.2.2.1 - 1) - 1)) (maS ts root.2.2.2.2.1 addr (IntKind.i64.wrap (root.2.2.2.2.2.1 - 1)) (maS ts root.2.2.2.2.1 addr root.2.2.2.2.2.1 root.2.1).2.1).2.1).2.1).2.1 != root.2.2.2.2.1 then true else decide (0 ≤ ftS ts (maS ts root.2.2.2.2.1 addr (IntKind.i64.wrap (IntKind.i64.wrap (root.2.2.2.2.2.1 - 1) - 1)) (maS ts root.2.2.2.2.1 addr (IntKind.i64.wrap (root.2.2.2.2.2.1 - 1)) (maS ts root.2.2.2.2.1 addr root.2.2.2.2.2.1 root.2.1).2.1).2.1).2.1) && decide (ftS ts (maS ts root.2.2.2.2.1 addr (IntKind.i64.wrap (IntKind.i64.wrap (root.2.2.2.2.2.1 - 1) - 1)) (maS ts root.2.2.2.2.1 addr (IntKind.i64.wrap (root.2.2.2.2.2.1 - 1)) (maS ts root.2.2.2.2.1 addr root.2.2.2.2.2.1 root.2.1).2.1).2.1).2.1 < (↑ts.length : Int)) && bif (taS ts (maS ts root.2.2.2.2.1 addr (IntKind.i64.wrap (IntKind.i64.wrap (root.2.2.2.2.2.1 - 1) - 1)) (maS ts root.2.2.2.2.1 addr (IntKind.i64.wrap (root.2.2.2.2.2.1 - 1)) (maS ts root.2.2.2.2.1 addr root.2.2.2.2.2.1 root.2.1).2.1).2.1).2.1).2.2.1 != IntKind.i64.wrap (IntKind.i64.wrap (IntKind.i64.wrap (root.2.2.2.2.2.1 - 1) - 1) - 1) then true else decide (0 ≤ ftS ts (maS ts root.2.2.2.2.1 addr (IntKind.i64.wrap (IntKind.i64.wrap (root.2.2.2.2.2.1 - 1) - 1)) (maS ts root.2.2.2.2.1 addr (IntKind.i64.wrap (root.2.2.2.2.2.1 - 1)) (maS ts root.2.2.2.2.1 addr root.2.2.2.2.2.1 root.2.1).2.1).2.1).2.1) && decide (ftS ts (maS ts root.2.2.2.2.1 addr (IntKind.i64.wrap (IntKind.i64.wrap (root.2.2.2.2.2.1 - 1) - 1)) (maS ts root.2.2.2.2.1 addr (IntKind.i64.wrap (root.2.2.2.2.2.1 - 1)) (maS ts root.2.2.2.2.1 addr root.2.2.2.2.2.1 root.2.1).2.1).2.1).2.1 < (↑ts.length : Int)) && (len40n (taS ts (maS ts root.2.2.2.2.1 addr (IntKind.i64.wrap (IntKind.i64.wrap (root.2.2.2.2.2.1 - 1) - 1)) (maS ts root.2.2.2.2.1 addr (IntKind.i64.wrap (root.2.2.2.2.2.1 - 1)) (maS ts root.2.2.2.2.1 addr root.2.2.2.2.2.1 root.2.1).2.1).2.1).2.1).2.2.2 && decide (faS ts root.2.2.2.2.1 addr (IntKind.i64.wrap (IntKind.i64.wrap (IntKind.i64.wrap (root.2.2.2.2.2.1 - 1) - 1) - 1)) (maS ts root.2.2.2.2.1 addr (IntKind.i64.wrap (IntKind.i64.wrap (root.2.2.2.2.2.1 - 1) - 1)) (maS ts root.2.2.2.2.1 addr (IntKind.i64.wrap (root.2.2.2.2.2.1 - 1)) (maS ts root.2.2.2.2.1 addr root.2.2.2.2.2.1 root.2.1).2.1).2.1).2.1 < 0)) else true)) else true)) else true)) else true
theorem rwlk_auto : ∀ a : (List (SPT)) × SCp × Int, Rns (fun f => M_rwlk f a) (P_rwlk a) (F_rwlk a)
  | (ts, root, addr) => ev_step (fun f => M_rwlk_eq f _ _ _) (evx_chk (ev_bif ev_some (ev_bif ev_some (ev_bif ev_some (ev_bif ev_some (ev_bif ev_some (ev_bif (evx_chk (ev_bif ev_some (evx_chk (ev_bif ev_some (evx_chk (ev_bif ev_some (evx_chk (evx_chk (ev_bif ev_some (evx_chk (evx_chk (ev_bif (evx_chk (ev_bif ev_some (evx_chk (ev_bif ev_some (evx_chk (ev_bif ev_some (evx_chk (evx_chk (ev_bif ev_some (evx_chk (evx_chk (ev_bif (evx_chk (ev_bif ev_some (evx_chk (ev_bif ev_some (evx_chk (ev_bif ev_some (evx_chk (evx_chk (ev_bif ev_some (evx_chk (evx_chk (ev_bif (evx_chk (ev_bif ev_some (evx_chk (ev_bif ev_some (evx_chk (ev_bif ev_some (evx_chk (evx_chk (evx_chk1 ev_some))))))))) ev_some)))))))))))) ev_some)))))))))))) ev_some)))))))))))) ev_some)))))))
end Go.AL
/-
  Layer 16: Walk: what both compute. By an AI agent.
-/
namespace Go.AL
open Go.Proofs
set_option linter.unusedVariables false
set_option linter.unusedSimpArgs false
def z13 : STr × Int := ((0, 0, 0, 0, [], []), 13)
def wkF (ts : List SPT) (w addr lv b : Int) (k : STr × Int) : STr × Int :=
  bif !decide (ftS ts b ≥ 0) then z13 else bif (taS ts b).2.1 != w then z13 else bif (taS ts b).2.2.1 != lv then z13 else bif !decide (faS ts w addr lv b ≥ 0) then z13 else k
def wkR (ts : List SPT) (w addr lv b : Int) (k : STr × Int) : STr × Int :=
  bif decide (ftS ts b < 0) then z13 else bif (taS ts b).2.1 != w then z13 else bif (taS ts b).2.2.1 != lv then z13 else bif decide (faS ts w addr lv b < 0) then z13 else k
theorem ge_lt0 (x : Int) : (!decide (x ≥ 0)) = decide (x < 0) := by
  by_cases h : x < 0
  · rw [decide_eq_true h, decide_eq_false (by omega)]; rfl
  · rw [decide_eq_false h, decide_eq_true (by omega)]; rfl
theorem wkF_R {ts : List SPT} {w addr lv b : Int} {k : STr × Int} : wkF ts w addr lv b k = wkR ts w addr lv b k := by
  simp only [wkF, wkR, ge_lt0]
def wkP (ts : List SPT) (w addr lv b : Int) (q : Bool) : Bool :=
  len40n ts && bif decide (ftS ts b < 0) then true else decide (0 ≤ ftS ts b) && decide (ftS ts b < (↑ts.length : Int)) && bif (taS ts b).2.1 != w then true else decide (0 ≤ ftS ts b) && decide (ftS ts b < (↑ts.length : Int)) && bif (taS ts b).2.2.1 != lv then true else decide (0 ≤ ftS ts b) && decide (ftS ts b < (↑ts.length : Int)) && (len40n (taS ts b).2.2.2 && bif decide (faS ts w addr lv b < 0) then true else decide (0 ≤ ftS ts b) && decide (ftS ts b < (↑ts.length : Int)) && (decide (0 ≤ faS ts w addr lv b) && decide (faS ts w addr lv b < (↑(List.length (taS ts b).2.2.2) : Int)) && q))
theorem fmS_lt (l : List SMp) (b : Int) : fmS l b < l.length := by have := findI_lt (fun t : SMp => decide (t.1 = b)) l 0 (by omega); unfold fmS; omega
theorem wkP_ok {ts : List SPT} (h : okM ts = true) {w addr lv b : Int} {q : Bool} (hq : q = true) : wkP ts w addr lv b q = true := by
  subst hq
  unfold wkP
  rw [show len40n ts = true from decide_eq_true (okM_len h), Bool.true_and]
  by_cases hf : ftS ts b < 0
  · rw [decide_eq_true hf]; rfl
  · have hr := ft_range hf
    have hm : len40n (taS ts b).2.2.2 = true := okM_mem h (ft_getD hf)
    have hl := fmS_lt (taS ts b).2.2.2 (ixS (w, lv, addr))
    rw [decide_eq_false hf, decide_eq_true hr.1, decide_eq_true hr.2, hm]
    simp only [cond_false, Bool.true_and, Bool.and_true, Bool.and_self]
    cases (taS ts b).2.1 != w
    · cases (taS ts b).2.2.1 != lv
      · simp only [cond_false]
        by_cases hg : faS ts w addr lv b < 0
        · rw [decide_eq_true hg]; rfl
        · rw [decide_eq_false hg, decide_eq_true (show 0 ≤ faS ts w addr lv b by omega), decide_eq_true (show faS ts w addr lv b < ((List.length (taS ts b).2.2.2 : Nat) : Int) from hl)]; rfl
      · rfl
    · rfl
def outS (r : Int) (p : Int) (m : SMp) (ids : List SId) (tabs : List Int) : STr × Int := ((r, p, m.2.1, m.2.2.1, ids, tabs), 0)
def wkS (ts : List SPT) (w addr : Int) : Nat → Int → Int → STr → STr × Int
  | 0, _, _, out => (out, 0)
  | n + 1, lv, b, out => wkR ts w addr lv b (wkS ts w addr n (lv - 1) (maS ts w addr lv b).2.1 (out.1, out.2.1, (maS ts w addr lv b).2.1, (maS ts w addr lv b).2.2.1, out.2.2.2.2.1 ++ [(maS ts w addr lv b).2.2.2], out.2.2.2.2.2 ++ [b]))
def wlkS (a : List SPT × SCp × Int) : STr × Int :=
  bif !tabsB a.1 then ((0, 0, 0, 0, [], []), 1) else bif !vcapB a.2.1 then ((0, 0, 0, 0, [], []), 5) else bif a.2.1.1 != 3 then ((0, 0, 0, 0, [], []), 5) else
  bif a.2.1.2.2.2.2.2.1 != (geoS a.2.1.2.2.2.2.1).1 - 1 then ((0, 0, 0, 0, [], []), 5) else bif !vaS (a.2.1.2.2.2.2.1, a.2.2) then ((0, 0, 0, 0, [], []), 6) else
  wkS a.1 a.2.1.2.2.2.2.1 a.2.2 (geoS a.2.1.2.2.2.2.1).1.toNat a.2.1.2.2.2.2.2.1 a.2.1.2.1 (a.2.1.2.1, a.2.2 / 4096, 0, 0, [], [])
theorem geo_3 (w : Int) : (geoS w).2.2.2 = true → (geoS w).1 = 2 ∨ (geoS w).1 = 3 := by
  intro h
  rcases geo_w h with rfl | rfl
  · exact .inl rfl
  · exact .inr rfl
theorem va_range {w a : Int} (h : vaS (w, a) = true) : (geoS w).2.2.2 = true ∧ 0 ≤ a ∧ a < 549755813888 := by
  obtain ⟨h1, h2⟩ := Bool.and_eq_true_iff.1 h
  obtain ⟨h2, h3⟩ := Bool.and_eq_true_iff.1 h2
  have h3 := of_decide_eq_true h3
  have h2 := of_decide_eq_true h2
  refine ⟨h1, h2, ?_⟩
  simp only at h3
  cases hd : decide (w = 32) <;> rw [hd] at h3 <;> simp only [cond_true, cond_false] at h3 <;> omega
theorem pg_s (a : Int) : a.fdiv (2 ^ min (Int.toNat 12) IntKind.i64.bits) = a / 4096 := Int.fdiv_eq_ediv_of_nonneg _ (by decide)
theorem pg_t {a : Int} (h : 0 ≤ a) (h2 : a < 549755813888) : IntKind.i64.wrap (a.tdiv 4096) = a / 4096 := by
  rw [Int.tdiv_eq_ediv_of_nonneg h]
  exact i64_id (by omega) (by omega)
theorem geoW (w : Int) : IntKind.i64.wrap ((geoS w).1 - 1) = (geoS w).1 - 1 := by
  unfold geoS
  cases decide (w = 32) <;> cases decide (w = 39) <;> rfl
section
variable (ts : List SPT) (root : SCp) (addr : Int)
theorem F_wlk_eq : F_wlk (ts, root, addr) = bif !tabsB ts then ((0, 0, 0, 0, [], []), 1) else bif !vcapB root then ((0, 0, 0, 0, [], []), 5) else bif root.1 != 3 then ((0, 0, 0, 0, [], []), 5) else bif root.2.2.2.2.2.1 != IntKind.i64.wrap ((geoS root.2.2.2.2.1).1 - 1) then ((0, 0, 0, 0, [], []), 5) else bif !vaS (root.2.2.2.2.1, addr) then ((0, 0, 0, 0, [], []), 6) else
    let p := addr.fdiv (2 ^ min (Int.toNat 12) IntKind.i64.bits)
    let w := root.2.2.2.2.1
    let l1 := root.2.2.2.2.2.1
    let l2 := IntKind.i64.wrap (l1 - 1)
    let l3 := IntKind.i64.wrap (l2 - 1)
    let l4 := IntKind.i64.wrap (l3 - 1)
    let b1 := root.2.1
    let m1 := maS ts w addr l1 b1
    let m2 := maS ts w addr l2 m1.2.1
    let m3 := maS ts w addr l3 m2.2.1
    bif decide (l1 ≥ 0) then wkF ts w addr l1 b1 (bif decide (l2 ≥ 0) then wkF ts w addr l2 m1.2.1 (bif decide (l3 ≥ 0) then wkF ts w addr l3 m2.2.1 (bif decide (l4 ≥ 0) then
        (bif !decide (ftS ts m3.2.1 ≥ 0) then z13 else bif (taS ts m3.2.1).2.1 != w then z13 else bif (taS ts m3.2.1).2.2.1 != l4 then z13 else z13)
      else ((b1, p, m3.2.1, m3.2.2.1, [m1.2.2.2] ++ [m2.2.2.2] ++ [m3.2.2.2], [b1] ++ [m1.2.1] ++ [m2.2.1]), 0)) else ((b1, p, m2.2.1, m2.2.2.1, [m1.2.2.2] ++ [m2.2.2.2], [b1] ++ [m1.2.1]), 0)) else ((b1, p, m1.2.1, m1.2.2.1, [m1.2.2.2], [b1]), 0)) else ((b1, p, 0, 0, [], []), 0) := rfl
theorem F_rwlk_eq : F_rwlk (ts, root, addr) = bif !tabsB ts then ((0, 0, 0, 0, [], []), 1) else bif !vcapB root then ((0, 0, 0, 0, [], []), 5) else bif root.1 != 3 then ((0, 0, 0, 0, [], []), 5) else bif root.2.2.2.2.2.1 != IntKind.i64.wrap ((geoS root.2.2.2.2.1).1 - 1) then ((0, 0, 0, 0, [], []), 5) else bif !vaS (root.2.2.2.2.1, addr) then ((0, 0, 0, 0, [], []), 6) else
    let p := IntKind.i64.wrap (addr.tdiv 4096)
    let w := root.2.2.2.2.1
    let l1 := root.2.2.2.2.2.1
    let l2 := IntKind.i64.wrap (l1 - 1)
    let l3 := IntKind.i64.wrap (l2 - 1)
    let l4 := IntKind.i64.wrap (l3 - 1)
    let b1 := root.2.1
    let m1 := maS ts w addr l1 b1
    let m2 := maS ts w addr l2 m1.2.1
    let m3 := maS ts w addr l3 m2.2.1
    bif decide (l1 ≥ 0) then wkR ts w addr l1 b1 (bif decide (l2 ≥ 0) then wkR ts w addr l2 m1.2.1 (bif decide (l3 ≥ 0) then wkR ts w addr l3 m2.2.1 (bif decide (l4 ≥ 0) then
        (bif decide (ftS ts m3.2.1 < 0) then z13 else bif (taS ts m3.2.1).2.1 != w then z13 else bif (taS ts m3.2.1).2.2.1 != l4 then z13 else z13)
      else ((b1, p, m3.2.1, m3.2.2.1, [] ++ [m1.2.2.2] ++ [m2.2.2.2] ++ [m3.2.2.2], [] ++ [b1] ++ [m1.2.1] ++ [m2.2.1]), 0)) else ((b1, p, m2.2.1, m2.2.2.1, [] ++ [m1.2.2.2] ++ [m2.2.2.2], [] ++ [b1] ++ [m1.2.1]), 0)) else ((b1, p, m1.2.1, m1.2.2.1, [] ++ [m1.2.2.2], [] ++ [b1]), 0)) else ((b1, p, 0, 0, [], []), 0) := rfl
end
theorem P_rwlk_eq (ts : List SPT) (root : SCp) (addr : Int) : P_rwlk (ts, root, addr) = (okM ts && bif !tabsB ts then true else bif !vcapB root then true else bif root.1 != 3 then true else bif root.2.2.2.2.2.1 != IntKind.i64.wrap ((geoS root.2.2.2.2.1).1 - 1) then true else bif !vaS (root.2.2.2.2.1, addr) then true else
    let w := root.2.2.2.2.1
    let l1 := root.2.2.2.2.2.1
    let l2 := IntKind.i64.wrap (l1 - 1)
    let l3 := IntKind.i64.wrap (l2 - 1)
    let l4 := IntKind.i64.wrap (l3 - 1)
    let b1 := root.2.1
    let m1 := maS ts w addr l1 b1
    let m2 := maS ts w addr l2 m1.2.1
    let m3 := maS ts w addr l3 m2.2.1
    bif decide (l1 ≥ 0) then wkP ts w addr l1 b1 (bif decide (l2 ≥ 0) then wkP ts w addr l2 m1.2.1 (bif decide (l3 ≥ 0) then wkP ts w addr l3 m2.2.1 (bif decide (l4 ≥ 0) then
       len40n ts && bif decide (ftS ts m3.2.1 < 0) then true else decide (0 ≤ ftS ts m3.2.1) && decide (ftS ts m3.2.1 < (↑ts.length : Int)) && bif (taS ts m3.2.1).2.1 != w then true else decide (0 ≤ ftS ts m3.2.1) && decide (ftS ts m3.2.1 < (↑ts.length : Int)) && bif (taS ts m3.2.1).2.2.1 != l4 then true else decide (0 ≤ ftS ts m3.2.1) && decide (ftS ts m3.2.1 < (↑ts.length : Int)) && (len40n (taS ts m3.2.1).2.2.2 && decide (faS ts w addr l4 m3.2.1 < 0))
      else true) else true) else true) else true) := rfl
theorem P_wlk_eq (ts : List SPT) (root : SCp) (addr : Int) : P_wlk (ts, root, addr) = P_rwlk (ts, root, addr) := by
  simp only [P_wlk, P_rwlk, ge_lt0]
theorem lv_neg {b : Int} {l : Int} (h : (l != b) = false) : l = b := by simpa using h
theorem rwlk_both : ∀ a : List SPT × SCp × Int, okM a.1 = true → P_rwlk a = true ∧ F_rwlk a = wlkS a := by
  rintro ⟨ts, root, addr⟩ h
  have h : okM ts = true := h
  rw [P_rwlk_eq, F_rwlk_eq, wlkS, h, Bool.true_and]
  simp only [geoW]
  cases hT : tabsB ts
  · exact ⟨rfl, rfl⟩
  cases hV : vcapB root
  · exact ⟨rfl, rfl⟩
  cases hK : root.1 != 3
  case true => exact ⟨rfl, rfl⟩
  cases hL : root.2.2.2.2.2.1 != (geoS root.2.2.2.2.1).1 - 1
  case true => exact ⟨rfl, rfl⟩
  cases hA : vaS (root.2.2.2.2.1, addr)
  · exact ⟨rfl, rfl⟩
  obtain ⟨hg, ha, hb⟩ := va_range hA
  have hL := lv_neg hL
  simp only [Bool.not_true, cond_false, pg_t ha hb]
  rw [hL]
  rcases geo_3 _ hg with g | g
  · rw [g]
    exact ⟨wkP_ok h (wkP_ok h rfl), rfl⟩
  · rw [g]
    exact ⟨wkP_ok h (wkP_ok h (wkP_ok h rfl)), rfl⟩
theorem F_wlk_r : ∀ a : List SPT × SCp × Int, okM a.1 = true → F_wlk a = F_rwlk a := by
  rintro ⟨ts, root, addr⟩ h
  rw [F_wlk_eq, F_rwlk_eq]
  simp only [geoW, wkF_R, ge_lt0, pg_s, List.nil_append]
  cases hA : vaS (root.2.2.2.2.1, addr)
  · rfl
  obtain ⟨hg, ha, hb⟩ := va_range hA
  simp only [pg_t ha hb]
theorem wlk_both : ∀ a : List SPT × SCp × Int, okM a.1 = true → P_wlk a = true ∧ F_wlk a = wlkS a := fun a h => by
  rw [F_wlk_r a h]
  obtain ⟨ts, root, addr⟩ := a
  rw [P_wlk_eq]
  exact rwlk_both _ h
theorem wlk_P : ∀ a : List SPT × SCp × Int, (fun a : List SPT × SCp × Int => okM a.1) a = true → P_wlk a = true := fun a h => (wlk_both a h).1
theorem wlk_F : ∀ a : List SPT × SCp × Int, (fun a : List SPT × SCp × Int => okM a.1) a = true → F_wlk a = wlkS a := fun a h => (wlk_both a h).2
theorem rwlk_P : ∀ a : List SPT × SCp × Int, (fun a : List SPT × SCp × Int => okM a.1) a = true → P_rwlk a = true := fun a h => (rwlk_both a h).1
theorem rwlk_F : ∀ a : List SPT × SCp × Int, (fun a : List SPT × SCp × Int => okM a.1) a = true → F_rwlk a = wlkS a := fun a h => (rwlk_both a h).2
theorem wlk_run : ∀ a, (fun a => okM a.1 : (List (SPT)) × SCp × Int → Bool) a = true → ∃ f, M_wlk f a = some ((wlkS : (List (SPT)) × SCp × Int → STr × Int) a) := fun a h => by have h1 := wlk_auto a (wlk_P a h); rw [wlk_F a h] at h1; exact h1
noncomputable def E_wlk : Ent := ⟨21, [.rd tSPT, .g tSCp, .c (.int .i64)], [.g tSTr, .v (.int .i64)], fun a => (fun a => okM a.1 : (List (SPT)) × SCp × Int → Bool) a, fun a => (wlkS : (List (SPT)) × SCp × Int → STr × Int) a⟩
theorem E_wlk_ok : E_wlk.Ok Try.prog := fun a hp vs hv => (wlk_run a hp).elim fun f h => fnX_ok (C := C_wlk) (Lt := Lt_wlk) (fn := Try.f21) (rs := [.cell 6 45, .tmp 7]) [.rd tSPT, .g tSCp, .c (.int .i64)] [.g tSTr, .v (.int .i64)] mixed es_wlk Try.func21 rfl rfl rfl (by kernel_rfl) (by kernel_rfl) f h vs hv
theorem rwlk_run : ∀ a, (fun a => okM a.1 : (List (SPT)) × SCp × Int → Bool) a = true → ∃ f, M_rwlk f a = some ((wlkS : (List (SPT)) × SCp × Int → STr × Int) a) := fun a h => by have h1 := rwlk_auto a (rwlk_P a h); rw [rwlk_F a h] at h1; exact h1
noncomputable def E_rwlk : Ent := ⟨51, [.rd tSPT, .g tSCp, .c (.int .i64)], [.g tSTr, .v (.int .i64)], fun a => (fun a => okM a.1 : (List (SPT)) × SCp × Int → Bool) a, fun a => (wlkS : (List (SPT)) × SCp × Int → STr × Int) a⟩
theorem E_rwlk_ok : E_rwlk.Ok Try.prog := fun a hp vs hv => (rwlk_run a hp).elim fun f h => fnX_ok (C := C_rwlk) (Lt := Lt_rwlk) (fn := Try.f51) (rs := [.cell 6 45, .tmp 7]) [.rd tSPT, .g tSCp, .c (.int .i64)] [.g tSTr, .v (.int .i64)] mixed es_rwlk Try.func51 rfl rfl rfl (by kernel_rfl) (by kernel_rfl) f h vs hv
end Go.AL
/-
  Layer 16: walks, Sync and caches: models. By an AI agent.
-/
namespace Go.AL
open Go.Proofs
set_option linter.unusedVariables false
set_option linter.unusedSimpArgs false
def okL (l : List STr) : Bool := len36n l && l.all trPre
theorem okL_len {l : List STr} (h : okL l = true) : l.length ≤ 68719476736 := of_decide_eq_true (Bool.and_eq_true_iff.1 h).1
theorem okL_mem {l : List STr} (h : okL l = true) {t : STr} (ht : t ∈ l) : trPre t = true := List.all_eq_true.1 (Bool.and_eq_true_iff.1 h).2 t ht
theorem tr40 {u : STr} (h : trPre u = true) : (len40n u.2.2.2.2.1 && len40n u.2.2.2.2.2) = true := by
  obtain ⟨h1, h2⟩ := Bool.and_eq_true_iff.1 h
  have h1 : u.2.2.2.2.1.length ≤ 68719476736 := of_decide_eq_true h1
  have h2 : u.2.2.2.2.2.length ≤ 68719476736 := of_decide_eq_true h2
  rw [Bool.and_eq_true]
  exact ⟨decide_eq_true (by omega), decide_eq_true (by omega)⟩
def keepF (t u : STr) : Bool := bif u.1 != t.1 then true else u.2.1 != t.2.1
noncomputable def C_fil1 : Cfg := ⟨Try.prog, [], pmT [], 16, [], []⟩
theorem es_fil1 : EsOk Try.prog [] [] := es_nil
def Lt_fil1 : Nat → LD := ldT []
noncomputable def M_fil1 (f : Nat) (a : STr × STr) : Option (Bool) := (runX (C_fil1) Lt_fil1 (Kret Try.prog [.tmp 3] [.v (.bool)]) f [.code (bodyOf Try.f72)] (initX [.g tSTr, .cp tSTr] a) : Option (ResT [.v (.bool)]))
theorem M_fil1_eq (f : Nat) (u : STr) (t : STr) : M_fil1 (f + 1) (u, t) =
    bif u.1 != t.1 then some true else some (u.2.1 != t.2.1) := by kernel_rfl
noncomputable def F_fil1 : (STr × STr) → Bool
  | (u, t) => bif u.1 != t.1 then true else u.2.1 != t.2.1
noncomputable def P_fil1 : (STr × STr) → Bool
  | (u, t) => true
theorem fil1_auto : ∀ a : STr × STr, Rns (fun f => M_fil1 f a) (P_fil1 a) (F_fil1 a)
  | (u, t) => ev_step (fun f => M_fil1_eq f _ _) (ev_bift ev_some ev_some)
theorem fil1_P : ∀ a : STr × STr, (fun _ => true) a = true → P_fil1 a = true := fun a h => rfl
theorem fil1_F : ∀ a : STr × STr, (fun _ => true) a = true → F_fil1 a = (fun a : STr × STr => keepF a.2 a.1) a := fun a h => rfl
theorem fil1_run : ∀ a, (fun _ => true : STr × STr → Bool) a = true → ∃ f, M_fil1 f a = some ((fun a => keepF a.2 a.1 : STr × STr → Bool) a) := fun a h => by have h1 := fil1_auto a (fil1_P a h); rw [fil1_F a h] at h1; exact h1
noncomputable def E_fil1 : Ent := ⟨72, [.g tSTr, .cp tSTr], [.v (.bool)], fun a => (fun _ => true : STr × STr → Bool) a, fun a => (fun a => keepF a.2 a.1 : STr × STr → Bool) a⟩
theorem E_fil1_ok : E_fil1.Ok Try.prog := fun a hp vs hv => (fil1_run a hp).elim fun f h => fnX_ok (C := C_fil1) (Lt := Lt_fil1) (fn := Try.f72) (rs := [.tmp 3]) [.g tSTr, .cp tSTr] [.v (.bool)] mixed es_fil1 Try.func72 rfl rfl rfl (by kernel_rfl) (by kernel_rfl) f h vs hv
noncomputable def C_flf : Cfg := ⟨Try.prog, [E_ctr, E_fil1], pmT [], 24, [], []⟩
theorem es_flf : EsOk Try.prog [E_ctr, E_fil1] [] := es_cons E_ctr_ok (es_cons E_fil1_ok (es_nil))
def Lt_flf : Nat → LD := ldT [(0, ⟨[.fn 1 72 [tSTr], .list 5 999 45 6 tSTr, .rd 8 tSTr, .c 9 (.int .i64), .c 10 (.int .i64)], []⟩)]
noncomputable def M_flf (f : Nat) (a : (List (STr)) × STr) : Option ((List (STr))) := (runX (C_flf) Lt_flf (Kret Try.prog [.tmp 4] [.o 45 6 tSTr]) f [.code (bodyOf Try.f71)] (initX [.rd tSTr, .fn 72 [tSTr]] a) : Option (ResT [.o 45 6 tSTr]))
noncomputable def L_flf_0 (f : Nat) (x : STr × (List (STr)) × (List (STr)) × Int × Int) : Option ((List (STr))) := (runX (C_flf) Lt_flf (Kret Try.prog [.tmp 4] [.o 45 6 tSTr]) f (headOf Try.f71 0) ((Lt_flf 0).mk' x) : Option (ResT [.o 45 6 tSTr]))
theorem M_flf_eq (f : Nat) (tlb : List (STr)) (keep : STr) : M_flf (f + 1) (tlb, keep) =
    L_flf_0 f (keep, [], tlb, (↑tlb.length : Int), 0) := by kernel_rfl
theorem L_flf_0_eq (f : Nat) (keep : STr) (out : List (STr)) (x8 : List (STr)) (x9 : Int) (x10 : Int) : L_flf_0 (f + 1) (keep, out, x8, x9, x10) =
    bif decide (x10 < x9) then bif decide (0 ≤ x10) && decide (x10 < (↑x8.length : Int)) then bif keepF keep (x8.getD x10.toNat (0, 0, 0, 0, [], [])) then bif len40n (x8.getD x10.toNat (0, 0, 0, 0, [], [])).2.2.2.2.1 && len40n (x8.getD x10.toNat (0, 0, 0, 0, [], [])).2.2.2.2.2 then bif decide ((out.length + [x8.getD x10.toNat (0, 0, 0, 0, [], [])].length) * 80 ≤ 140737488355328) then L_flf_0 f (keep, out ++ [x8.getD x10.toNat (0, 0, 0, 0, [], [])], x8, x9, IntKind.i64.wrap (x10 + 1)) else none else none else L_flf_0 f (keep, out, x8, x9, IntKind.i64.wrap (x10 + 1)) else none else some out := by kernel_rfl
noncomputable def F_flf_0 : List (STr) → (STr × (List (STr)) × (List (STr)) × Int × Nat) → (List (STr))
  | [], (keep, out, x8, x9, x10) => out
  | uu :: rest, (keep, out, x8, x9, x10) => bif keepF keep uu then F_flf_0 rest (keep, out ++ [uu], x8, x9, x10 + 1) else F_flf_0 rest (keep, out, x8, x9, x10 + 1)
noncomputable def P_flf_0 : List (STr) → (STr × (List (STr)) × (List (STr)) × Int × Nat) → Bool
  | [], (keep, out, x8, x9, x10) => true
  | uu :: rest, (keep, out, x8, x9, x10) => bif keepF keep uu then len40n uu.2.2.2.2.1 && len40n uu.2.2.2.2.2 && (decide ((out.length + [uu].length) * 80 ≤ 140737488355328) && P_flf_0 rest (keep, out ++ [uu], x8, x9, x10 + 1)) else P_flf_0 rest (keep, out, x8, x9, x10 + 1)
theorem A_flf_0 : ∀ (rest : List (STr)) (keep : STr) (out : List (STr)) (x8 : List (STr)) (x9 : Int) (x10 : Nat) (hd : x8.drop x10 = rest) (hn : x9 = ((x8.length : Nat) : Int)) (hl : x8.length ≤ 1099511627776), Rns (fun f => L_flf_0 f (keep, out, x8, x9, ((x10 : Nat) : Int))) (P_flf_0 rest (keep, out, x8, x9, x10)) (F_flf_0 rest (keep, out, x8, x9, x10))
  | [], keep, out, x8, x9, x10, hd, hn, hl => ev_step (T := fun f => some out) (fun f => (L_flf_0_eq f _ _ _ _ _).trans (by simp only [ge_decn hn (drop_ge hd), ge0, Bool.and_self, Bool.true_and, cond_true, cond_false, List.length_set] <;> rfl)) ev_some
  | uu :: rest, keep, out, x8, x9, x10, hd, hn, hl => ev_step (T := fun f => bif keepF keep uu then bif len40n uu.2.2.2.2.1 && len40n uu.2.2.2.2.2 then bif decide ((out.length + [uu].length) * 80 ≤ 140737488355328) then L_flf_0 f (keep, out ++ [uu], x8, x9, (↑(x10 + 1) : Int)) else none else none else L_flf_0 f (keep, out, x8, x9, (↑(x10 + 1) : Int))) (fun f => (L_flf_0_eq f _ _ _ _ _).trans (by simp only [lt_decn hn (drop_lt hd), lt_dec (drop_lt hd), drop_get hd, wrap_succ (drop_lt hd) hl, getD_set (drop_lt hd), ge0, Bool.and_self, Bool.true_and, cond_true, cond_false, List.length_set] <;> rfl)) (ev_bif (ev_chk (ev_chk (A_flf_0 rest _ _ _ _ _ (by first | exact drop_succ hd | exact drop_set hd | exact drop_setS (drop_set hd)) (by first | exact hn | simpa using hn) (by first | exact hl | simpa using hl)))) (A_flf_0 rest _ _ _ _ _ (by first | exact drop_succ hd | exact drop_set hd | exact drop_setS (drop_set hd)) (by first | exact hn | simpa using hn) (by first | exact hl | simpa using hl)))
noncomputable def F_flf : ((List (STr)) × STr) → (List (STr))
  | (tlb, keep) => F_flf_0 tlb (keep, [], tlb, (↑tlb.length : Int), 0)
noncomputable def P_flf : ((List (STr)) × STr) → Bool
  | (tlb, keep) => decide (tlb.length ≤ 1099511627776) && P_flf_0 tlb (keep, [], tlb, (↑tlb.length : Int), 0)
theorem flf_auto : ∀ a : (List (STr)) × STr, Rns (fun f => M_flf f a) (P_flf a) (F_flf a)
  | (tlb, keep) => ev_step (fun f => M_flf_eq f _ _) (ev_and fun hh => A_flf_0 _ _ _ _ _ _ rfl (by first | rfl | simp) (of_decide_eq_true hh))
theorem flf_0 (t : STr) (x8 : List STr) (x9 : Int) : ∀ (r out : List STr) (k : Nat), (∀ e ∈ r, trPre e = true) → out.length + r.length ≤ 68719476736 → F_flf_0 r (t, out, x8, x9, k) = out ++ r.filter (keepF t) ∧ P_flf_0 r (t, out, x8, x9, k) = true
  | [], out, k, h, hl => ⟨by simp [F_flf_0], rfl⟩
  | u :: r, out, k, h, hl => by
    simp only [List.length_cons] at hl
    have hu := tr40 (h u (List.mem_cons_self ..))
    obtain ⟨i1, i2⟩ := flf_0 t x8 x9 r (out ++ [u]) (k + 1) (fun e he => h e (List.mem_cons_of_mem _ he)) (by simp; omega)
    obtain ⟨j1, j2⟩ := flf_0 t x8 x9 r out (k + 1) (fun e he => h e (List.mem_cons_of_mem _ he)) (by omega)
    simp only [F_flf_0, P_flf_0, i1, i2, j1, j2, hu, Bool.true_and, List.filter_cons]
    cases hk : keepF t u
    · exact ⟨rfl, rfl⟩
    · simp only [cond_true, if_true, List.append_assoc, List.singleton_append, Bool.and_true, decide_eq_true_eq, true_and]
      simp only [List.length_singleton]; omega
theorem flf_P : ∀ a : List STr × STr, (fun a : List STr × STr => okL a.1) a = true → P_flf a = true := fun a h => by
  have h : okL a.1 = true := h
  simp only [P_flf, (flf_0 a.2 _ _ a.1 [] 0 (fun e he => okL_mem h he) (by simpa using okL_len h)).2, Bool.and_true]
  exact decide_eq_true (by have := okL_len h; omega)
theorem flf_F : ∀ a : List STr × STr, (fun a : List STr × STr => okL a.1) a = true → F_flf a = (fun a : List STr × STr => a.1.filter (keepF a.2)) a := fun a h => by
  have h : okL a.1 = true := h
  simp only [F_flf, (flf_0 a.2 _ _ a.1 [] 0 (fun e he => okL_mem h he) (by simpa using okL_len h)).1, List.nil_append]
theorem flf_run : ∀ a, (fun a => okL a.1 : (List (STr)) × STr → Bool) a = true → ∃ f, M_flf f a = some ((fun a => a.1.filter (keepF a.2) : (List (STr)) × STr → (List (STr))) a) := fun a h => by have h1 := flf_auto a (flf_P a h); rw [flf_F a h] at h1; exact h1
noncomputable def E_flf : Ent := ⟨71, [.rd tSTr, .fn 72 [tSTr]], [.o 45 6 tSTr], fun a => (fun a => okL a.1 : (List (STr)) × STr → Bool) a, fun a => (fun a => a.1.filter (keepF a.2) : (List (STr)) × STr → (List (STr))) a⟩
theorem E_flf_ok : E_flf.Ok Try.prog := fun a hp vs hv => (flf_run a hp).elim fun f h => fnX_ok (C := C_flf) (Lt := Lt_flf) (fn := Try.f71) (rs := [.tmp 4]) [.rd tSTr, .fn 72 [tSTr]] [.o 45 6 tSTr] mixed es_flf Try.func71 rfl rfl rfl (by kernel_rfl) (by kernel_rfl) f h vs hv
noncomputable def C_vfil : Cfg := ⟨Try.prog, [E_flf, E_ctr], pmT [], 20, [], [(13, tSTr)]⟩
theorem es_vfil : EsOk Try.prog [E_flf, E_ctr] [] := es_cons E_flf_ok (es_cons E_ctr_ok (es_nil))
def Lt_vfil : Nat → LD := ldT []
noncomputable def M_vfil (f : Nat) (a : (List (STr)) × STr) : Option ((List (STr))) := (runX (C_vfil) Lt_vfil (Kret Try.prog [.tmp 4] [.v (.sl tSTr)]) f [.code (bodyOf Try.f41)] (initX [.rd tSTr, .g tSTr] a) : Option (ResT [.v (.sl tSTr)]))
theorem M_vfil_eq (f : Nat) (tlb : List (STr)) (t : STr) : M_vfil (f + 1) (tlb, t) =
    bif okL tlb then bif len40n t.2.2.2.2.1 && len40n t.2.2.2.2.2 then bif decide (((List.filter (keepF t) tlb).length + [t].length) * 80 ≤ 140737488355328) then bif decide (0 ≤ if IntKind.i64.wrap ((↑(List.filter (keepF t) tlb ++ [t]).length : Int) - 8) > 0 then IntKind.i64.wrap ((↑(List.filter (keepF t) tlb ++ [t]).length : Int) - 8) else 0) && decide ((if IntKind.i64.wrap ((↑(List.filter (keepF t) tlb ++ [t]).length : Int) - 8) > 0 then IntKind.i64.wrap ((↑(List.filter (keepF t) tlb ++ [t]).length : Int) - 8) else 0) ≤ (↑(List.filter (keepF t) tlb ++ [t]).length : Int)) then some (List.drop (if IntKind.i64.wrap ((↑(List.filter (keepF t) tlb ++ [t]).length : Int) - 8) > 0 then IntKind.i64.wrap ((↑(List.filter (keepF t) tlb ++ [t]).length : Int) - 8) else 0).toNat (List.filter (keepF t) tlb ++ [t])) else none else none else none else none := by kernel_rfl
noncomputable def F_vfil : ((List (STr)) × STr) → (List (STr))
  | (tlb, t) => List.drop (if IntKind.i64.wrap ((↑(List.filter (keepF t) tlb ++ [t]).length : Int) - 8) > 0 then IntKind.i64.wrap ((↑(List.filter (keepF t) tlb ++ [t]).length : Int) - 8) else 0).toNat (List.filter (keepF t) tlb ++ [t])
noncomputable def P_vfil : ((List (STr)) × STr) → Bool
  | (tlb, t) => okL tlb && (len40n t.2.2.2.2.1 && len40n t.2.2.2.2.2 && (decide (((List.filter (keepF t) tlb).length + [t].length) * 80 ≤ 140737488355328) && (decide (0 ≤ if IntKind.i64.wrap ((↑(List.filter (keepF t) tlb ++ [t]).length : Int) - 8) > 0 then IntKind.i64.wrap ((↑(List.filter (keepF t) tlb ++ [t]).length : Int) - 8) else 0) && decide ((if IntKind.i64.wrap ((↑(List.filter (keepF t) tlb ++ [t]).length : Int) - 8) > 0 then IntKind.i64.wrap ((↑(List.filter (keepF t) tlb ++ [t]).length : Int) - 8) else 0) ≤ (↑(List.filter (keepF t) tlb ++ [t]).length : Int)))))
theorem vfil_auto : ∀ a : (List (STr)) × STr, Rns (fun f => M_vfil f a) (P_vfil a) (F_vfil a)
  | (tlb, t) => ev_step (fun f => M_vfil_eq f _ _) (ev_chk (ev_chk (ev_chk (ev_chk1 ev_some))))
def cutL (l : List STr) : List STr := l.drop (l.length - 8)
def filS (a : List STr × STr) : List STr := cutL (a.1.filter (keepF a.2) ++ [a.2])
def filPre (a : List STr × STr) : Bool := okL a.1 && trPre a.2
theorem cut_n (n : Nat) (h : n ≤ 68719476737) : IntKind.i64.wrap (((n : Nat) : Int) - 8) = (n : Int) - 8 := i64_id (by omega) (by omega)
theorem fil_len {a : List STr × STr} (h : okL a.1 = true) : (a.1.filter (keepF a.2) ++ [a.2]).length ≤ 68719476737 := by
  have := okL_len h
  have := List.length_filter_le (keepF a.2) a.1
  rw [List.length_append, List.length_singleton]; omega
theorem cut_d {l : List STr} : (if ((l.length : Nat) : Int) - 8 > 0 then ((l.length : Nat) : Int) - 8 else 0).toNat = l.length - 8 := by
  split <;> omega
theorem vfil_P : ∀ a : List STr × STr, filPre a = true → P_vfil a = true := fun a h => by
  obtain ⟨h1, h2⟩ := Bool.and_eq_true_iff.1 h
  have hl := okL_len h1
  have hf := List.length_filter_le (keepF a.2) a.1
  simp only [P_vfil, h1, tr40 h2, cut_n _ (fil_len h1), Bool.true_and, Bool.and_eq_true, decide_eq_true_eq, List.length_singleton]
  refine ⟨by omega, ?_, ?_⟩ <;> split <;> omega
theorem vfil_F : ∀ a : List STr × STr, filPre a = true → F_vfil a = filS a := fun a h => by
  obtain ⟨h1, h2⟩ := Bool.and_eq_true_iff.1 h
  simp only [F_vfil, cut_n _ (fil_len h1), cut_d]
  rfl
theorem vfil_run : ∀ a, (filPre : (List (STr)) × STr → Bool) a = true → ∃ f, M_vfil f a = some ((filS : (List (STr)) × STr → (List (STr))) a) := fun a h => by have h1 := vfil_auto a (vfil_P a h); rw [vfil_F a h] at h1; exact h1
noncomputable def E_vfil : Ent := ⟨41, [.rd tSTr, .g tSTr], [.v (.sl tSTr)], fun a => (filPre : (List (STr)) × STr → Bool) a, fun a => (filS : (List (STr)) × STr → (List (STr))) a⟩
theorem E_vfil_ok : E_vfil.Ok Try.prog := fun a hp vs hv => (vfil_run a hp).elim fun f h => fnX_ok (C := C_vfil) (Lt := Lt_vfil) (fn := Try.f41) (rs := [.tmp 4]) [.rd tSTr, .g tSTr] [.v (.sl tSTr)] mixed es_vfil Try.func41 rfl rfl rfl (by kernel_rfl) (by kernel_rfl) f h vs hv
end Go.AL
/-
  Layer 16: what the laws share; awake holds. By an AI agent.
-/
namespace Go.AL
open Go.Proofs
set_option linter.unusedVariables false
set_option linter.unusedSimpArgs false
def tcapS (n : Int) : SCp := [((3, 4096, 12, 7, 32, 1, false) : SCp), (3, 8192, 12, 7, 32, 0, false), (3, 12288, 12, 7, 32, 0, false), (3, 16384, 12, 7, 32, 1, false)].getD (place (n, 4)).toNat (0, 0, 0, 0, 0, 0, false)
theorem place_r (n k : Int) (hk : 0 < k) : 0 ≤ place (n, k) ∧ place (n, k) < k := by
  simp only [place]
  rw [decide_eq_false (by omega), cond_false]
  exact ⟨Int.emod_nonneg _ (by omega), Int.emod_lt_of_pos _ hk⟩
noncomputable def C_tcap : Cfg := ⟨Try.prog, [E_top, E_low, E_place], pmT [], 14, [], []⟩
theorem es_tcap : EsOk Try.prog [E_top, E_low, E_place] [] := es_cons E_top_ok (es_cons E_low_ok (es_cons E_place_ok (es_nil)))
def Lt_tcap : Nat → LD := ldT []
noncomputable def M_tcap (f : Nat) (a : Int) : Option (SCp) := (runX (C_tcap) Lt_tcap (Kret Try.prog [.cell 2 25] [.g tSCp]) f [.code (bodyOf Try.f16)] (initX [.c (.int .i64)] a) : Option (ResT [.g tSCp]))
theorem M_tcap_eq (f : Nat) (n : Int) : M_tcap (f + 1) n =
    bif decide (0 ≤ place (n, 4)) && decide (place (n, 4) < (↑[(3, 4096, 12, 7, 32, 1, false), (3, 8192, 12, 7, 32, 0, false), (3, 12288, 12, 7, 32, 0, false), (3, 16384, 12, 7, 32, 1, false)].length : Int)) then some ([(3, 4096, 12, 7, 32, 1, false), (3, 8192, 12, 7, 32, 0, false), (3, 12288, 12, 7, 32, 0, false), (3, 16384, 12, 7, 32, 1, false)].getD (place (n, 4)).toNat (0, 0, 0, 0, 0, 0, false)) else none := by kernel_rfl
noncomputable def F_tcap : Int → SCp
  | n => [(3, 4096, 12, 7, 32, 1, false), (3, 8192, 12, 7, 32, 0, false), (3, 12288, 12, 7, 32, 0, false), (3, 16384, 12, 7, 32, 1, false)].getD (place (n, 4)).toNat (0, 0, 0, 0, 0, 0, false)
noncomputable def P_tcap : Int → Bool
  | n => decide (0 ≤ place (n, 4)) && decide (place (n, 4) < (↑[(3, 4096, 12, 7, 32, 1, false), (3, 8192, 12, 7, 32, 0, false), (3, 12288, 12, 7, 32, 0, false), (3, 16384, 12, 7, 32, 1, false)].length : Int))
theorem tcap_auto : ∀ a : Int, Rns (fun f => M_tcap f a) (P_tcap a) (F_tcap a)
  | n => ev_step (fun f => M_tcap_eq f _) (ev_chk1 ev_some)
theorem tcap_P : ∀ n : Int, (fun _ => true) n = true → P_tcap n = true := fun n _ => by
  obtain ⟨h1, h2⟩ := place_r n 4 (by omega)
  simp only [P_tcap, decide_eq_true h1, Bool.true_and, decide_eq_true_eq]
  exact h2
theorem tcap_F : ∀ n : Int, (fun _ => true) n = true → F_tcap n = tcapS n := fun n _ => rfl
theorem tcap_run : ∀ a, (fun _ => true : Int → Bool) a = true → ∃ f, M_tcap f a = some ((tcapS : Int → SCp) a) := fun a h => by have h1 := tcap_auto a (tcap_P a h); rw [tcap_F a h] at h1; exact h1
noncomputable def E_tcap : Ent := ⟨16, [.c (.int .i64)], [.g tSCp], fun a => (fun _ => true : Int → Bool) a, fun a => (tcapS : Int → SCp) a⟩
theorem E_tcap_ok : E_tcap.Ok Try.prog := fun a hp vs hv => (tcap_run a hp).elim fun f h => fnX_ok (C := C_tcap) (Lt := Lt_tcap) (fn := Try.f16) (rs := [.cell 2 25]) [.c (.int .i64)] [.g tSCp] mixed es_tcap Try.func16 rfl rfl rfl (by kernel_rfl) (by kernel_rfl) f h vs hv
def mnodS (n : Int) : SNd := bif decide (place (n, 8) < 4) then (0, place (n, 8) + 1, 0, [], tcapS (place (n, 8))) else (0, place (n, 8) + 1, 0, [], 2, place (n, 8) * 4096, 12, 3, 0, 0, false)
noncomputable def C_mnod : Cfg := ⟨Try.prog, [E_place, E_page, E_tcap], pmT [], 23, [], []⟩
theorem es_mnod : EsOk Try.prog [E_place, E_page, E_tcap] [] := es_cons E_place_ok (es_cons E_page_ok (es_cons E_tcap_ok (es_nil)))
def Lt_mnod : Nat → LD := ldT []
noncomputable def M_mnod (f : Nat) (a : Int) : Option (SNd) := (runX (C_mnod) Lt_mnod (Kret Try.prog [.cell 2 42] [.g tSNd]) f [.code (bodyOf Try.f29)] (initX [.c (.int .i64)] a) : Option (ResT [.g tSNd]))
theorem M_mnod_eq (f : Nat) (n : Int) : M_mnod (f + 1) n =
    bif decide (place (n, 8) < 4) then some (0, IntKind.i64.wrap (1 + place (n, 8)), 0, [], tcapS (place (n, 8))) else some (0, IntKind.i64.wrap (1 + place (n, 8)), 0, [], 2, IntKind.i64.wrap (place (n, 8) * 2 ^ min (Int.toNat 12) IntKind.i64.bits), 12, 3, 0, 0, false) := by kernel_rfl
noncomputable def F_mnod : Int → SNd
  | n => bif decide (place (n, 8) < 4) then (0, IntKind.i64.wrap (1 + place (n, 8)), 0, [], tcapS (place (n, 8))) else (0, IntKind.i64.wrap (1 + place (n, 8)), 0, [], 2, IntKind.i64.wrap (place (n, 8) * 2 ^ min (Int.toNat 12) IntKind.i64.bits), 12, 3, 0, 0, false)
noncomputable def P_mnod : Int → Bool
  | n => true
theorem mnod_auto : ∀ a : Int, Rns (fun f => M_mnod f a) (P_mnod a) (F_mnod a)
  | n => ev_step (fun f => M_mnod_eq f _) (ev_bift ev_some ev_some)
theorem mnod_P : ∀ n : Int, (fun _ => true) n = true → P_mnod n = true := fun n _ => rfl
theorem mnod_F : ∀ n : Int, (fun _ => true) n = true → F_mnod n = mnodS n := fun n _ => by
  obtain ⟨h1, h2⟩ := place_r n 8 (by omega)
  have e1 : IntKind.i64.wrap (1 + place (n, 8)) = place (n, 8) + 1 := by rw [i64_id (by omega) (by omega)]; omega
  have e2 : IntKind.i64.wrap (place (n, 8) * 2 ^ min (Int.toNat 12) IntKind.i64.bits) = place (n, 8) * 4096 := by
    rw [show place (n, 8) * 2 ^ min (Int.toNat 12) IntKind.i64.bits = place (n, 8) * 4096 from rfl]; exact i64_id (by omega) (by omega)
  simp only [F_mnod, mnodS, e1, e2]
theorem mnod_run : ∀ a, (fun _ => true : Int → Bool) a = true → ∃ f, M_mnod f a = some ((mnodS : Int → SNd) a) := fun a h => by have h1 := mnod_auto a (mnod_P a h); rw [mnod_F a h] at h1; exact h1
noncomputable def E_mnod : Ent := ⟨29, [.c (.int .i64)], [.g tSNd], fun a => (fun _ => true : Int → Bool) a, fun a => (mnodS : Int → SNd) a⟩
theorem E_mnod_ok : E_mnod.Ok Try.prog := fun a hp vs hv => (mnod_run a hp).elim fun f h => fnX_ok (C := C_mnod) (Lt := Lt_mnod) (fn := Try.f29) (rs := [.cell 2 42]) [.c (.int .i64)] [.g tSNd] mixed es_mnod Try.func29 rfl rfl rfl (by kernel_rfl) (by kernel_rfl) f h vs hv
noncomputable def C_awk : Cfg := ⟨Try.prog, [E_top, E_low, E_vmap, E_page, E_wlk, E_vfil], pmT [], 67, [], []⟩
theorem es_awk : EsOk Try.prog [E_top, E_low, E_vmap, E_page, E_wlk, E_vfil] [] := es_cons E_top_ok (es_cons E_low_ok (es_cons E_vmap_ok (es_cons E_page_ok (es_cons E_wlk_ok (es_cons E_vfil_ok (es_nil))))))
def Lt_awk : Nat → LD := ldT []
noncomputable def M_awk (f : Nat) (a : Unit) : Option (Bool) := (runX (C_awk) Lt_awk (Kret Try.prog [.tmp 0] [.v (.bool)]) f [.code (bodyOf Try.f12)] (initX [] a) : Option (ResT [.v (.bool)]))
theorem M_awk_eq (f : Nat)  : M_awk (f + 1) () =
    some ((↑(filS ([], (wlkS ((Go.Proofs.mapS ((Go.Proofs.mapS ([], (3, 4096, 12, 7, 32, 1, false), 0, (0, 1, 0, [], 3, 8192, 12, 7, 32, 0, false), 7)).1, (3, 8192, 12, 7, 32, 0, false), 3, (0, 2, 0, [], 2, 1048576, 12, 3, 0, 0, false), 1)).1, (3, 4096, 12, 7, 32, 1, false), 12293)).1)).length : Int) == 1) := by kernel_rfl
noncomputable def F_awk : Unit → Bool
  | () => (↑(filS ([], (wlkS ((Go.Proofs.mapS ((Go.Proofs.mapS ([], (3, 4096, 12, 7, 32, 1, false), 0, (0, 1, 0, [], 3, 8192, 12, 7, 32, 0, false), 7)).1, (3, 8192, 12, 7, 32, 0, false), 3, (0, 2, 0, [], 2, 1048576, 12, 3, 0, 0, false), 1)).1, (3, 4096, 12, 7, 32, 1, false), 12293)).1)).length : Int) == 1
noncomputable def P_awk : Unit → Bool
  | () => true
theorem awk_auto : ∀ a : Unit, Rns (fun f => M_awk f a) (P_awk a) (F_awk a)
  | () => ev_step (fun f => M_awk_eq f ) ev_some
theorem awk_t : F_awk () = true := by decide +kernel
theorem awk_P : ∀ a : Unit, (fun _ => true) a = true → P_awk a = true := fun _ _ => rfl
theorem awk_F : ∀ a : Unit, (fun _ => true) a = true → F_awk a = (fun _ => true) a := fun _ _ => awk_t
theorem awk_run : ∀ a, (fun _ => true : Unit → Bool) a = true → ∃ f, M_awk f a = some ((fun _ => true : Unit → Bool) a) := fun a h => by have h1 := awk_auto a (awk_P a h); rw [awk_F a h] at h1; exact h1
noncomputable def E_awk : Ent := ⟨12, [], [.v (.bool)], fun a => (fun _ => true : Unit → Bool) a, fun a => (fun _ => true : Unit → Bool) a⟩
theorem E_awk_ok : E_awk.Ok Try.prog := fun a hp vs hv => (awk_run a hp).elim fun f h => fnX_ok (C := C_awk) (Lt := Lt_awk) (fn := Try.f12) (rs := [.tmp 0]) [] [.v (.bool)] mixed es_awk Try.func12 rfl rfl rfl (by kernel_rfl) (by kernel_rfl) f h vs hv
def okN (n : Nat) (l : List SPT) : Bool := decide (l.length ≤ n) && l.all fun t => decide (t.2.2.2.length ≤ n)
theorem okN_len {n : Nat} {l : List SPT} (h : okN n l = true) : l.length ≤ n := of_decide_eq_true (Bool.and_eq_true_iff.1 h).1
theorem okN_mem {n : Nat} {l : List SPT} (h : okN n l = true) {t : SPT} (ht : t ∈ l) : t.2.2.2.length ≤ n := of_decide_eq_true (List.all_eq_true.1 (Bool.and_eq_true_iff.1 h).2 t ht)
theorem okN_mk {n : Nat} {l : List SPT} (h : l.length ≤ n) (h2 : ∀ t ∈ l, t.2.2.2.length ≤ n) : okN n l = true := by
  unfold okN
  rw [Bool.and_eq_true]
  exact ⟨decide_eq_true h, List.all_eq_true.2 fun t ht => decide_eq_true (h2 t ht)⟩
theorem okN_okT {n : Nat} (hn : n ≤ 68719476736) {l : List SPT} (h : okN n l = true) : okT l = true := by
  unfold okT
  rw [Bool.and_eq_true]
  exact ⟨decide_eq_true (Nat.le_trans (okN_len h) hn), List.all_eq_true.2 fun t ht => decide_eq_true (Nat.le_trans (okN_mem h ht) hn)⟩
theorem okN_le {n m : Nat} (hn : n ≤ m) {l : List SPT} (h : okN n l = true) : okN m l = true := okN_mk (Nat.le_trans (okN_len h) hn) fun t ht => Nat.le_trans (okN_mem h ht) hn
theorem bif_p {α : Type} {P : α → Prop} {c : Bool} {x y : α} (hx : P x) (hy : P y) : P (bif c then x else y) := by cases c; exact hy; exact hx
theorem bif_pn {α : Type} {P : α → Prop} {c : Bool} {x y : α} (hx : P x) (hy : c = false → P y) : P (bif c then x else y) := by cases c; exact hy rfl; exact hx
theorem few_okN {l : List SPT} (h : F_few l = true) : okN 1000000 l = true := by
  obtain ⟨h1, h2⟩ := few_ok h
  exact okN_mk (by omega) fun t ht => by have := h2 t ht; omega
end Go.AL
/-
  Layer 16: walks, Sync and caches: models. By an AI agent.
-/
namespace Go.AL
open Go.Proofs
set_option linter.unusedVariables false
set_option linter.unusedSimpArgs false
def keepM (live : List SId) (m : SMp) : Bool := memD m.2.2.2 live
def putT (out : List SPT) (t : SPT) (k : List SMp) : List SPT := bif decide (((k.length : Nat) : Int) > 0) then out ++ [(t.1, t.2.1, t.2.2.1, k)] else out
def synL (live : List SId) (tables : List Int) : List SPT → List SPT → List SPT
  | out, [] => out
  | out, t :: r => bif !memD t.1 tables then synL live tables out r else synL live tables (putT out t (t.2.2.2.filter (keepM live))) r
def synS (a : List SPT × List SId × List Int) : List SPT := synL a.2.1 a.2.2 [] a.1
def synPre (a : List SPT × List SId × List Int) : Bool := okT a.1 && (len40n a.2.1 && len40n a.2.2)
theorem putT_len (out : List SPT) (t : SPT) (k : List SMp) : (putT out t k).length ≤ out.length + 1 := by
  unfold putT; cases decide (((k.length : Nat) : Int) > 0) <;> simp
noncomputable def C_syn : Cfg := ⟨Try.prog, [E_icon, E_scon], pmT [], 51, [], [(43, tSMp)]⟩
theorem es_syn : EsOk Try.prog [E_icon, E_scon] [] := es_cons E_icon_ok (es_cons E_scon_ok (es_nil))
def Lt_syn : Nat → LD := ldT [(0, ⟨[.rd 1 tSId, .rd 2 [.int .i64], .list 7 999 60 4 tSPT, .rd 13 tSPT, .c 14 (.int .i64), .c 15 (.int .i64)], []⟩), (2, ⟨[.rd 1 tSId, .rd 2 [.int .i64], .list 7 999 60 4 tSPT, .box 9 9 60 4 tSPT, .list 10 998 64 6 tSMp, .rd 13 tSPT, .c 14 (.int .i64), .c 15 (.int .i64), .c 25 (.sl tSMp), .c 26 (.int .i64), .c 27 (.int .i64)], []⟩)]
noncomputable def M_syn (f : Nat) (a : (List (SPT)) × (List (SId)) × (List (Int))) : Option ((List (SPT))) := (runX (C_syn) Lt_syn (Kret Try.prog [.tmp 6] [.o 60 4 tSPT]) f [.code (bodyOf Try.f25)] (initX [.rd tSPT, .rd tSId, .rd [.int .i64]] a) : Option (ResT [.o 60 4 tSPT]))
noncomputable def L_syn_0 (f : Nat) (x : (List (SId)) × (List (Int)) × (List (SPT)) × (List (SPT)) × Int × Int) : Option ((List (SPT))) := (runX (C_syn) Lt_syn (Kret Try.prog [.tmp 6] [.o 60 4 tSPT]) f (headOf Try.f25 0) ((Lt_syn 0).mk' x) : Option (ResT [.o 60 4 tSPT]))
noncomputable def L_syn_2 (f : Nat) (x : (List (SId)) × (List (Int)) × (List (SPT)) × SPT × (List (SMp)) × (List (SPT)) × Int × Int × (List (SMp)) × Int × Int) : Option ((List (SPT))) := (runX (C_syn) Lt_syn (Kret Try.prog [.tmp 6] [.o 60 4 tSPT]) f (headOf Try.f25 2) ((Lt_syn 2).mk' x) : Option (ResT [.o 60 4 tSPT]))
theorem M_syn_eq (f : Nat) (ts : List (SPT)) (live : List (SId)) (tables : List (Int)) : M_syn (f + 1) (ts, live, tables) =
    L_syn_0 f (live, tables, [], ts, (↑ts.length : Int), 0) := by kernel_rfl
theorem L_syn_0_eq (f : Nat) (live : List (SId)) (tables : List (Int)) (out : List (SPT)) (x13 : List (SPT)) (x14 : Int) (x15 : Int) : L_syn_0 (f + 1) (live, tables, out, x13, x14, x15) =
    bif decide (x15 < x14) then bif decide (0 ≤ x15) && decide (x15 < (↑x13.length : Int)) then bif len40n tables then bif !memD (x13.getD x15.toNat (0, 0, 0, [])).1 tables then L_syn_0 f (live, tables, out, x13, x14, IntKind.i64.wrap (x15 + 1)) else L_syn_2 f (live, tables, out, ((x13.getD x15.toNat (0, 0, 0, [])).1, (x13.getD x15.toNat (0, 0, 0, [])).2.1, (x13.getD x15.toNat (0, 0, 0, [])).2.2.1, (x13.getD x15.toNat (0, 0, 0, [])).2.2.2), [], x13, x14, x15, (x13.getD x15.toNat (0, 0, 0, [])).2.2.2, (↑(List.length (x13.getD x15.toNat (0, 0, 0, [])).2.2.2) : Int), 0) else none else none else some out := by kernel_rfl
theorem L_syn_2_eq (f : Nat) (live : List (SId)) (tables : List (Int)) (out : List (SPT)) (t : SPT) (kept : List (SMp)) (x13 : List (SPT)) (x14 : Int) (x15 : Int) (x25 : List (SMp)) (x26 : Int) (x27 : Int) : L_syn_2 (f + 1) (live, tables, out, t, kept, x13, x14, x15, x25, x26, x27) =
    bif decide (x27 < x26) then bif decide (0 ≤ x27) && decide (x27 < (↑x25.length : Int)) then bif len40n live then bif memD (x25.getD x27.toNat (0, 0, 0, 0, 0, 0)).2.2.2 live then bif decide ((kept.length + [x25.getD x27.toNat (0, 0, 0, 0, 0, 0)].length) * 48 ≤ 140737488355328) then L_syn_2 f (live, tables, out, t, kept ++ [x25.getD x27.toNat (0, 0, 0, 0, 0, 0)], x13, x14, x15, x25, x26, IntKind.i64.wrap (x27 + 1)) else none else L_syn_2 f (live, tables, out, t, kept, x13, x14, x15, x25, x26, IntKind.i64.wrap (x27 + 1)) else none else none else bif decide ((↑kept.length : Int) > 0) then bif decide ((out.length + [(t.1, t.2.1, t.2.2.1, kept)].length) * 48 ≤ 140737488355328) then L_syn_0 f (live, tables, out ++ [(t.1, t.2.1, t.2.2.1, kept)], x13, x14, IntKind.i64.wrap (x15 + 1)) else none else L_syn_0 f (live, tables, out, x13, x14, IntKind.i64.wrap (x15 + 1)) := by kernel_rfl
noncomputable def F_syn_2 (K_0 : ((List (SId)) × (List (Int)) × (List (SPT)) × (List (SPT)) × Int × Nat) → (List (SPT))) : List (SMp) → ((List (SId)) × (List (Int)) × (List (SPT)) × SPT × (List (SMp)) × (List (SPT)) × Int × Nat × (List (SMp)) × Int × Nat) → (List (SPT))
  | [], (live, tables, out, t, kept, x13, x14, x15, x25, x26, x27) => bif decide ((↑kept.length : Int) > 0) then K_0 (live, tables, out ++ [(t.1, t.2.1, t.2.2.1, kept)], x13, x14, x15 + 1) else K_0 (live, tables, out, x13, x14, x15 + 1)
  | uu :: rest, (live, tables, out, t, kept, x13, x14, x15, x25, x26, x27) => bif memD uu.2.2.2 live then F_syn_2 K_0 rest (live, tables, out, t, kept ++ [uu], x13, x14, x15, x25, x26, x27 + 1) else F_syn_2 K_0 rest (live, tables, out, t, kept, x13, x14, x15, x25, x26, x27 + 1)
noncomputable def P_syn_2 (KP_0 : ((List (SId)) × (List (Int)) × (List (SPT)) × (List (SPT)) × Int × Nat) → Bool) : List (SMp) → ((List (SId)) × (List (Int)) × (List (SPT)) × SPT × (List (SMp)) × (List (SPT)) × Int × Nat × (List (SMp)) × Int × Nat) → Bool
  | [], (live, tables, out, t, kept, x13, x14, x15, x25, x26, x27) => bif decide ((↑kept.length : Int) > 0) then decide ((out.length + [(t.1, t.2.1, t.2.2.1, kept)].length) * 48 ≤ 140737488355328) && KP_0 (live, tables, out ++ [(t.1, t.2.1, t.2.2.1, kept)], x13, x14, x15 + 1) else KP_0 (live, tables, out, x13, x14, x15 + 1)
  | uu :: rest, (live, tables, out, t, kept, x13, x14, x15, x25, x26, x27) => len40n live && bif memD uu.2.2.2 live then decide ((kept.length + [uu].length) * 48 ≤ 140737488355328) && P_syn_2 KP_0 rest (live, tables, out, t, kept ++ [uu], x13, x14, x15, x25, x26, x27 + 1) else P_syn_2 KP_0 rest (live, tables, out, t, kept, x13, x14, x15, x25, x26, x27 + 1)
theorem A_syn_2 {K_0 : ((List (SId)) × (List (Int)) × (List (SPT)) × (List (SPT)) × Int × Nat) → (List (SPT))} {KP_0 : ((List (SId)) × (List (Int)) × (List (SPT)) × (List (SPT)) × Int × Nat) → Bool} {rest_0 : List (SPT)} (hK_0 : ∀ (live : List (SId)) (tables : List (Int)) (out : List (SPT)) (x13 : List (SPT)) (x14 : Int) (x15 : Nat) (hd : x13.drop x15 = rest_0) (hn : x14 = ((x13.length : Nat) : Int)) (hl : x13.length ≤ 1099511627776), Rns (fun f => L_syn_0 f (live, tables, out, x13, x14, ((x15 : Nat) : Int))) (KP_0 (live, tables, out, x13, x14, x15)) (K_0 (live, tables, out, x13, x14, x15))) : ∀ (rest : List (SMp)) (live : List (SId)) (tables : List (Int)) (out : List (SPT)) (t : SPT) (kept : List (SMp)) (x13 : List (SPT)) (x14 : Int) (x15 : Nat) (x25 : List (SMp)) (x26 : Int) (x27 : Nat) (hd : x25.drop x27 = rest) (hn : x26 = ((x25.length : Nat) : Int)) (hl : x25.length ≤ 1099511627776) (hd_0 : x13.drop (x15 + 1) = rest_0) (hn_0 : x14 = ((x13.length : Nat) : Int)) (hl_0 : x13.length ≤ 1099511627776) (ht_0 : x15 < x13.length), Rns (fun f => L_syn_2 f (live, tables, out, t, kept, x13, x14, ((x15 : Nat) : Int), x25, x26, ((x27 : Nat) : Int))) (P_syn_2 KP_0 rest (live, tables, out, t, kept, x13, x14, x15, x25, x26, x27)) (F_syn_2 K_0 rest (live, tables, out, t, kept, x13, x14, x15, x25, x26, x27))
  | [], live, tables, out, t, kept, x13, x14, x15, x25, x26, x27, hd, hn, hl, hd_0, hn_0, hl_0, ht_0 => ev_step (T := fun f => bif decide ((↑kept.length : Int) > 0) then bif decide ((out.length + [(t.1, t.2.1, t.2.2.1, kept)].length) * 48 ≤ 140737488355328) then L_syn_0 f (live, tables, out ++ [(t.1, t.2.1, t.2.2.1, kept)], x13, x14, (↑(x15 + 1) : Int)) else none else L_syn_0 f (live, tables, out, x13, x14, (↑(x15 + 1) : Int))) (fun f => (L_syn_2_eq f _ _ _ _ _ _ _ _ _ _ _).trans (by simp only [ge_decn hn (drop_ge hd), ge0, Bool.and_self, Bool.true_and, cond_true, cond_false, List.length_set, wrap_succ ht_0 hl_0, lt_dec ht_0, getD_set ht_0, lt_decn hn_0 ht_0] <;> rfl)) (ev_bif (ev_chk (hK_0 _ _ _ _ _ _ (by first | exact hd_0 | exact drop_setS hd_0 | exact drop_setS (drop_setS hd_0)) (by first | exact hn_0 | simpa using hn_0) (by first | exact hl_0 | simpa using hl_0))) (hK_0 _ _ _ _ _ _ (by first | exact hd_0 | exact drop_setS hd_0 | exact drop_setS (drop_setS hd_0)) (by first | exact hn_0 | simpa using hn_0) (by first | exact hl_0 | simpa using hl_0)))
  | uu :: rest, live, tables, out, t, kept, x13, x14, x15, x25, x26, x27, hd, hn, hl, hd_0, hn_0, hl_0, ht_0 => ev_step (T := fun f => bif len40n live then bif memD uu.2.2.2 live then bif decide ((kept.length + [uu].length) * 48 ≤ 140737488355328) then L_syn_2 f (live, tables, out, t, kept ++ [uu], x13, x14, (↑x15 : Int), x25, x26, (↑(x27 + 1) : Int)) else none else L_syn_2 f (live, tables, out, t, kept, x13, x14, (↑x15 : Int), x25, x26, (↑(x27 + 1) : Int)) else none) (fun f => (L_syn_2_eq f _ _ _ _ _ _ _ _ _ _ _).trans (by simp only [lt_decn hn (drop_lt hd), lt_dec (drop_lt hd), drop_get hd, wrap_succ (drop_lt hd) hl, getD_set (drop_lt hd), ge0, Bool.and_self, Bool.true_and, cond_true, cond_false, List.length_set, wrap_succ ht_0 hl_0, lt_dec ht_0, getD_set ht_0, lt_decn hn_0 ht_0] <;> rfl)) (ev_chk (ev_bif (ev_chk (A_syn_2 hK_0 rest _ _ _ _ _ _ _ _ _ _ _ (by first | exact drop_succ hd | exact drop_set hd | exact drop_setS (drop_set hd)) (by first | exact hn | simpa using hn) (by first | exact hl | simpa using hl) (by first | exact hd_0 | exact drop_setS hd_0 | exact drop_setS (drop_setS hd_0)) (by first | exact hn_0 | simpa using hn_0) (by first | exact hl_0 | simpa using hl_0) (by first | exact ht_0 | simpa using ht_0))) (A_syn_2 hK_0 rest _ _ _ _ _ _ _ _ _ _ _ (by first | exact drop_succ hd | exact drop_set hd | exact drop_setS (drop_set hd)) (by first | exact hn | simpa using hn) (by first | exact hl | simpa using hl) (by first | exact hd_0 | exact drop_setS hd_0 | exact drop_setS (drop_setS hd_0)) (by first | exact hn_0 | simpa using hn_0) (by first | exact hl_0 | simpa using hl_0) (by first | exact ht_0 | simpa using ht_0))))
noncomputable def F_syn_0 : List (SPT) → ((List (SId)) × (List (Int)) × (List (SPT)) × (List (SPT)) × Int × Nat) → (List (SPT))
  | [], (live, tables, out, x13, x14, x15) => out
  | uu :: rest, (live, tables, out, x13, x14, x15) => bif !memD uu.1 tables then F_syn_0 rest (live, tables, out, x13, x14, x15 + 1) else F_syn_2 (F_syn_0 rest) uu.2.2.2 (live, tables, out, (uu.1, uu.2.1, uu.2.2.1, uu.2.2.2), [], x13, x14, x15, uu.2.2.2, (↑(List.length uu.2.2.2) : Int), 0)
noncomputable def P_syn_0 : List (SPT) → ((List (SId)) × (List (Int)) × (List (SPT)) × (List (SPT)) × Int × Nat) → Bool
  | [], (live, tables, out, x13, x14, x15) => true
  | uu :: rest, (live, tables, out, x13, x14, x15) => len40n tables && bif !memD uu.1 tables then P_syn_0 rest (live, tables, out, x13, x14, x15 + 1) else decide (List.length uu.2.2.2 ≤ 1099511627776) && P_syn_2 (P_syn_0 rest) uu.2.2.2 (live, tables, out, (uu.1, uu.2.1, uu.2.2.1, uu.2.2.2), [], x13, x14, x15, uu.2.2.2, (↑(List.length uu.2.2.2) : Int), 0)
theorem A_syn_0 : ∀ (rest : List (SPT)) (live : List (SId)) (tables : List (Int)) (out : List (SPT)) (x13 : List (SPT)) (x14 : Int) (x15 : Nat) (hd : x13.drop x15 = rest) (hn : x14 = ((x13.length : Nat) : Int)) (hl : x13.length ≤ 1099511627776), Rns (fun f => L_syn_0 f (live, tables, out, x13, x14, ((x15 : Nat) : Int))) (P_syn_0 rest (live, tables, out, x13, x14, x15)) (F_syn_0 rest (live, tables, out, x13, x14, x15))
  | [], live, tables, out, x13, x14, x15, hd, hn, hl => ev_step (T := fun f => some out) (fun f => (L_syn_0_eq f _ _ _ _ _ _).trans (by simp only [ge_decn hn (drop_ge hd), ge0, Bool.and_self, Bool.true_and, cond_true, cond_false, List.length_set] <;> rfl)) ev_some
  | uu :: rest, live, tables, out, x13, x14, x15, hd, hn, hl => ev_step (T := fun f => bif len40n tables then bif !memD uu.1 tables then L_syn_0 f (live, tables, out, x13, x14, (↑(x15 + 1) : Int)) else L_syn_2 f (live, tables, out, (uu.1, uu.2.1, uu.2.2.1, uu.2.2.2), [], x13, x14, (↑x15 : Int), uu.2.2.2, (↑(List.length uu.2.2.2) : Int), 0) else none) (fun f => (L_syn_0_eq f _ _ _ _ _ _).trans (by simp only [lt_decn hn (drop_lt hd), lt_dec (drop_lt hd), drop_get hd, wrap_succ (drop_lt hd) hl, getD_set (drop_lt hd), ge0, Bool.and_self, Bool.true_and, cond_true, cond_false, List.length_set] <;> rfl)) (ev_chk (ev_bif (A_syn_0 rest _ _ _ _ _ _ (by first | exact drop_succ hd | exact drop_set hd | exact drop_setS (drop_set hd)) (by first | exact hn | simpa using hn) (by first | exact hl | simpa using hl)) (ev_and fun hh => A_syn_2 (A_syn_0 rest) _ _ _ _ _ _ _ _ _ _ _ _ rfl (by first | rfl | simp) (of_decide_eq_true hh) (by first | exact drop_succ hd | exact drop_set hd | exact drop_setS (drop_set hd)) (by first | exact hn | simpa using hn) (by first | exact hl | simpa using hl) (by first | exact drop_lt hd | simpa using drop_lt hd))))
noncomputable def F_syn : ((List (SPT)) × (List (SId)) × (List (Int))) → (List (SPT))
  | (ts, live, tables) => F_syn_0 ts (live, tables, [], ts, (↑ts.length : Int), 0)
noncomputable def P_syn : ((List (SPT)) × (List (SId)) × (List (Int))) → Bool
  | (ts, live, tables) => decide (ts.length ≤ 1099511627776) && P_syn_0 ts (live, tables, [], ts, (↑ts.length : Int), 0)
theorem syn_auto : ∀ a : (List (SPT)) × (List (SId)) × (List (Int)), Rns (fun f => M_syn f a) (P_syn a) (F_syn a)
  | (ts, live, tables) => ev_step (fun f => M_syn_eq f _ _ _) (ev_and fun hh => A_syn_0 _ _ _ _ _ _ _ rfl (by first | rfl | simp) (of_decide_eq_true hh))
theorem syn_2 {live : List SId} (hlive : len40n live = true) (K : (List SId × List Int × List SPT × List SPT × Int × Nat) → List SPT) (KP : (List SId × List Int × List SPT × List SPT × Int × Nat) → Bool) (tables : List Int) (out : List SPT) (t : SPT) (x13 : List SPT) (x14 : Int) (x15 : Nat) (x25 : List SMp) (x26 : Int) (ho : out.length ≤ 68719476736) : ∀ (r kept : List SMp) (x27 : Nat), kept.length + r.length ≤ 68719476736 →
    F_syn_2 K r (live, tables, out, t, kept, x13, x14, x15, x25, x26, x27) = K (live, tables, putT out t (kept ++ r.filter (keepM live)), x13, x14, x15 + 1) ∧ (KP (live, tables, putT out t (kept ++ r.filter (keepM live)), x13, x14, x15 + 1) = true → P_syn_2 KP r (live, tables, out, t, kept, x13, x14, x15, x25, x26, x27) = true)
  | [], kept, x27, h => by
    simp only [F_syn_2, P_syn_2, List.filter_nil, List.append_nil, putT]
    cases decide (((kept.length : Nat) : Int) > 0)
    · exact ⟨rfl, fun h => h⟩
    · refine ⟨rfl, fun h => ?_⟩
      have h : KP (live, tables, out ++ [(t.1, t.2.1, t.2.2.1, kept)], x13, x14, x15 + 1) = true := h
      simp only [cond_true, h, Bool.and_true, decide_eq_true_eq, List.length_singleton]; omega
  | u :: r, kept, x27, h => by
    simp only [List.length_cons] at h
    obtain ⟨i1, i2⟩ := syn_2 hlive K KP tables out t x13 x14 x15 x25 x26 ho r (kept ++ [u]) (x27 + 1) (by simp; omega)
    obtain ⟨j1, j2⟩ := syn_2 hlive K KP tables out t x13 x14 x15 x25 x26 ho r kept (x27 + 1) (by omega)
    have e : decide ((kept.length + [u].length) * 48 ≤ 140737488355328) = true := decide_eq_true (by simp only [List.length_singleton]; omega)
    simp only [F_syn_2, P_syn_2, hlive, e, Bool.true_and, List.filter_cons]
    cases hk : memD u.2.2.2 live
    · rw [show keepM live u = false from hk]
      exact ⟨j1, j2⟩
    · rw [show keepM live u = true from hk]
      simp only [List.append_assoc, List.singleton_append] at i1 i2
      exact ⟨i1, i2⟩
theorem syn_0 {live : List SId} {tables : List Int} (h1 : len40n live = true) (h2 : len40n tables = true) (x13 : List SPT) (x14 : Int) : ∀ (r out : List SPT) (k : Nat), (∀ t ∈ r, t.2.2.2.length ≤ 68719476736) → out.length + r.length ≤ 68719476736 → F_syn_0 r (live, tables, out, x13, x14, k) = synL live tables out r ∧ P_syn_0 r (live, tables, out, x13, x14, k) = true
  | [], out, k, h, hl => ⟨rfl, rfl⟩
  | u :: r, out, k, h, hl => by
    simp only [List.length_cons] at hl
    have hu := h u (List.mem_cons_self ..)
    have hp := putT_len out u (u.2.2.2.filter (keepM live))
    obtain ⟨i1, i2⟩ := syn_0 h1 h2 x13 x14 r (putT out u (u.2.2.2.filter (keepM live))) (k + 1) (fun e he => h e (List.mem_cons_of_mem _ he)) (by omega)
    obtain ⟨j1, j2⟩ := syn_0 h1 h2 x13 x14 r out (k + 1) (fun e he => h e (List.mem_cons_of_mem _ he)) (by omega)
    obtain ⟨k1, k2⟩ := syn_2 h1 (F_syn_0 r) (P_syn_0 r) tables out (u.1, u.2.1, u.2.2.1, u.2.2.2) x13 x14 k u.2.2.2 ((List.length u.2.2.2 : Nat) : Int) (by omega) u.2.2.2 [] 0 (by simp; omega)
    simp only [F_syn_0, P_syn_0, h2, k1, j1, j2, Bool.true_and, synL, decide_eq_true (show List.length u.2.2.2 ≤ 1099511627776 by omega)]
    cases memD u.1 tables
    · exact ⟨rfl, rfl⟩
    · exact ⟨i1, k2 i2⟩
theorem syn_both : ∀ a : List SPT × List SId × List Int, synPre a = true → P_syn a = true ∧ F_syn a = synS a := by
  rintro ⟨ts, live, tables⟩ h
  obtain ⟨h0, h12⟩ := Bool.and_eq_true_iff.1 h
  obtain ⟨h1, h2⟩ := Bool.and_eq_true_iff.1 h12
  have hl := okT_len h0
  obtain ⟨i1, i2⟩ := syn_0 h1 h2 ts ((ts.length : Nat) : Int) ts [] 0 (fun t ht => okT_mem h0 ht) (by simpa using hl)
  simp only [P_syn, F_syn, i1, i2, Bool.and_true]
  exact ⟨decide_eq_true (by have : ts.length ≤ 68719476736 := hl; omega), rfl⟩
theorem syn_P : ∀ a : List SPT × List SId × List Int, synPre a = true → P_syn a = true := fun a h => (syn_both a h).1
theorem syn_F : ∀ a : List SPT × List SId × List Int, synPre a = true → F_syn a = synS a := fun a h => (syn_both a h).2
theorem syn_run : ∀ a, (synPre : (List (SPT)) × (List (SId)) × (List (Int)) → Bool) a = true → ∃ f, M_syn f a = some ((synS : (List (SPT)) × (List (SId)) × (List (Int)) → (List (SPT))) a) := fun a h => by have h1 := syn_auto a (syn_P a h); rw [syn_F a h] at h1; exact h1
noncomputable def E_syn : Ent := ⟨25, [.rd tSPT, .rd tSId, .rd [.int .i64]], [.o 60 4 tSPT], fun a => (synPre : (List (SPT)) × (List (SId)) × (List (Int)) → Bool) a, fun a => (synS : (List (SPT)) × (List (SId)) × (List (Int)) → (List (SPT))) a⟩
theorem E_syn_ok : E_syn.Ok Try.prog := fun a hp vs hv => (syn_run a hp).elim fun f h => fnX_ok (C := C_syn) (Lt := Lt_syn) (fn := Try.f25) (rs := [.tmp 6]) [.rd tSPT, .rd tSId, .rd [.int .i64]] [.o 60 4 tSPT] mixed es_syn Try.func25 rfl rfl rfl (by kernel_rfl) (by kernel_rfl) f h vs hv
noncomputable def C_rsyn : Cfg := ⟨Try.prog, [E_hasInt, E_hasId], pmT [(12, ([(0, []), (1, []), (3, []), (4, []), (5, [2]), (6, [2]), (7, [2]), (8, []), (9, [2]), (10, [2]), (11, [2]), (2, []), (12, []), (13, [])], [(11, 11), (52, 64)]))], 76, [], []⟩
theorem es_rsyn : EsOk Try.prog [E_hasInt, E_hasId] [] := es_cons E_hasInt_ok (es_cons E_hasId_ok (es_nil))
def Lt_rsyn : Nat → LD := ldT [(0, ⟨[.rd 0 tSPT, .rd 1 tSId, .rd 2 [.int .i64], .list 7 999 60 4 tSPT, .c 8 (.int .i64)], []⟩), (2, ⟨[.rd 0 tSPT, .rd 1 tSId, .rd 2 [.int .i64], .list 7 999 60 4 tSPT, .c 8 (.int .i64), .box 9 9 60 4 tSPT, .c 10 (.int .i64)], []⟩)]
noncomputable def M_rsyn (f : Nat) (a : (List (SPT)) × (List (SId)) × (List (Int))) : Option ((List (SPT))) := (runX (C_rsyn) Lt_rsyn (Kret Try.prog [.tmp 6] [.o 60 4 tSPT]) f [.code (bodyOf Try.f28)] (initX [.rd tSPT, .rd tSId, .rd [.int .i64]] a) : Option (ResT [.o 60 4 tSPT]))
noncomputable def L_rsyn_0 (f : Nat) (x : (List (SPT)) × (List (SId)) × (List (Int)) × (List (SPT)) × Int) : Option ((List (SPT))) := (runX (C_rsyn) Lt_rsyn (Kret Try.prog [.tmp 6] [.o 60 4 tSPT]) f (headOf Try.f28 0) ((Lt_rsyn 0).mk' x) : Option (ResT [.o 60 4 tSPT]))
noncomputable def L_rsyn_2 (f : Nat) (x : (List (SPT)) × (List (SId)) × (List (Int)) × (List (SPT)) × Int × SPT × Int) : Option ((List (SPT))) := (runX (C_rsyn) Lt_rsyn (Kret Try.prog [.tmp 6] [.o 60 4 tSPT]) f (headOf Try.f28 2) ((Lt_rsyn 2).mk' x) : Option (ResT [.o 60 4 tSPT]))
theorem M_rsyn_eq (f : Nat) (ts : List (SPT)) (live : List (SId)) (tables : List (Int)) : M_rsyn (f + 1) (ts, live, tables) =
    L_rsyn_0 f (ts, live, tables, [], 0) := by kernel_rfl
theorem L_rsyn_0_eq (f : Nat) (ts : List (SPT)) (live : List (SId)) (tables : List (Int)) (out : List (SPT)) (i : Int) : L_rsyn_0 (f + 1) (ts, live, tables, out, i) =
    bif decide (i < (↑ts.length : Int)) then bif decide (0 ≤ i) && decide (i < (↑ts.length : Int)) then bif len40n tables then bif !memD (ts.getD i.toNat (0, 0, 0, [])).1 tables then L_rsyn_0 f (ts, live, tables, out, IntKind.i64.wrap (i + 1)) else bif decide (0 ≤ i) && decide (i < (↑ts.length : Int)) then L_rsyn_2 f (ts, live, tables, out, i, ((ts.getD i.toNat (0, 0, 0, [])).1, (ts.getD i.toNat (0, 0, 0, [])).2.1, (ts.getD i.toNat (0, 0, 0, [])).2.2.1, []), 0) else none else none else none else some out := by kernel_rfl
theorem L_rsyn_2_eq (f : Nat) (ts : List (SPT)) (live : List (SId)) (tables : List (Int)) (out : List (SPT)) (i : Int) (t : SPT) (k : Int) : L_rsyn_2 (f + 1) (ts, live, tables, out, i, t, k) =
    bif decide (0 ≤ i) && decide (i < (↑ts.length : Int)) then bif decide (k < (↑(List.length (ts.getD i.toNat (0, 0, 0, [])).2.2.2) : Int)) then bif decide (0 ≤ i) && decide (i < (↑ts.length : Int)) then bif decide (0 ≤ k) && decide (k < (↑(List.length (ts.getD i.toNat (0, 0, 0, [])).2.2.2) : Int)) then bif len40n live then bif memD (List.getD (ts.getD i.toNat (0, 0, 0, [])).2.2.2 k.toNat (0, 0, 0, 0, 0, 0)).2.2.2 live then bif decide (0 ≤ i) && decide (i < (↑ts.length : Int)) then bif decide (0 ≤ k) && decide (k < (↑(List.length (ts.getD i.toNat (0, 0, 0, [])).2.2.2) : Int)) then bif decide (List.length t.2.2.2 * 48 ≤ 140737488355328) then bif decide ((List.length t.2.2.2 + [List.getD (ts.getD i.toNat (0, 0, 0, [])).2.2.2 k.toNat (0, 0, 0, 0, 0, 0)].length) * 48 ≤ 140737488355328) then L_rsyn_2 f (ts, live, tables, out, i, (t.1, t.2.1, t.2.2.1, t.2.2.2 ++ [List.getD (ts.getD i.toNat (0, 0, 0, [])).2.2.2 k.toNat (0, 0, 0, 0, 0, 0)]), IntKind.i64.wrap (k + 1)) else none else none else none else none else L_rsyn_2 f (ts, live, tables, out, i, t, IntKind.i64.wrap (k + 1)) else none else none else none else bif decide ((↑(List.length t.2.2.2) : Int) > 0) then bif decide ((out.length + [t].length) * 48 ≤ 140737488355328) then L_rsyn_0 f (ts, live, tables, out ++ [t], IntKind.i64.wrap (i + 1)) else none else L_rsyn_0 f (ts, live, tables, out, IntKind.i64.wrap (i + 1)) else none := by kernel_rfl
theorem rsyn_2 {live : List SId} {tables : List Int} (hlive : len40n live = true) {p q : List SPT} {u : SPT} {out : List SPT} {R : List SPT} (hp : p.length ≤ 68719476736) (ho : out.length ≤ 68719476736) : ∀ (r pm kept : List SMp), u.2.2.2 = pm ++ r → pm.length + r.length ≤ 68719476736 → kept.length ≤ pm.length →
    (∃ f, L_rsyn_0 f (p ++ u :: q, live, tables, putT out u (kept ++ r.filter (keepM live)), ((p.length + 1 : Nat) : Int)) = some R) → ∃ f, L_rsyn_2 f (p ++ u :: q, live, tables, out, ((p.length : Nat) : Int), (u.1, u.2.1, u.2.2.1, kept), ((pm.length : Nat) : Int)) = some R
  | [], pm, kept, hu, hl, hk, ⟨f, hf⟩ => by
    have e1 : IntKind.i64.wrap (((p.length : Nat) : Int) + 1) = ((p.length + 1 : Nat) : Int) := by rw [i64_id (by omega) (by omega)]; rfl
    refine ⟨f + 1, (L_rsyn_2_eq f _ _ _ _ _ _ _).trans ?_⟩
    rw [lt_mid, getD_mid, ge0, hu, lt_end, e1]
    simp only [List.filter_nil, List.append_nil, putT] at hf
    have e : decide ((out.length + [((u.1, u.2.1, u.2.2.1, kept) : SPT)].length) * 48 ≤ 140737488355328) = true := decide_eq_true (by simp only [List.length_singleton]; omega)
    simp only [Bool.and_self, cond_true, cond_false, e]
    rw [← hf]
    cases decide (((kept.length : Nat) : Int) > 0) <;> rfl
  | m :: r, pm, kept, hu, hl, hk, hf => by
    simp only [List.length_cons] at hl
    have e1 : IntKind.i64.wrap (((pm.length : Nat) : Int) + 1) = ((pm.length + 1 : Nat) : Int) := by rw [i64_id (by omega) (by omega)]; rfl
    have em : u.2.2.2 = (pm ++ [m]) ++ r := by rw [hu]; simp
    have el : (pm ++ [m]).length = pm.length + 1 := by simp
    have c1 : decide (kept.length * 48 ≤ 140737488355328) = true := decide_eq_true (by omega)
    have c2 : decide ((kept.length + [m].length) * 48 ≤ 140737488355328) = true := decide_eq_true (by simp only [List.length_singleton]; omega)
    simp only [List.filter_cons] at hf
    cases hk2 : memD m.2.2.2 live
    · rw [show keepM live m = false from hk2] at hf
      obtain ⟨f, hf⟩ := rsyn_2 hlive hp ho r (pm ++ [m]) kept em (by rw [el]; omega) (by rw [el]; omega) hf
      refine ⟨f + 1, (L_rsyn_2_eq f _ _ _ _ _ _ _).trans ?_⟩
      rw [lt_mid, getD_mid, ge0, hu, lt_mid, getD_mid, ge0, e1, hlive, hk2]
      rw [el] at hf
      exact hf
    · rw [show keepM live m = true from hk2] at hf
      obtain ⟨f, hf⟩ := rsyn_2 hlive hp ho r (pm ++ [m]) (kept ++ [m]) em (by rw [el]; omega) (by simp; omega) (by simpa using hf)
      refine ⟨f + 1, (L_rsyn_2_eq f _ _ _ _ _ _ _).trans ?_⟩
      rw [lt_mid, getD_mid, ge0, hu, lt_mid, getD_mid, ge0, e1, hlive, hk2]
      rw [el] at hf
      simp only [c1, c2, Bool.and_self, cond_true]
      exact hf
theorem rsyn_0 {live : List SId} {tables : List Int} (h1 : len40n live = true) (h2 : len40n tables = true) : ∀ (r p out : List SPT), (∀ t ∈ r, t.2.2.2.length ≤ 68719476736) → p.length + r.length ≤ 68719476736 → out.length ≤ p.length → ∃ f, L_rsyn_0 f (p ++ r, live, tables, out, ((p.length : Nat) : Int)) = some (synL live tables out r)
  | [], p, out, h, hl, ho => ⟨1, (L_rsyn_0_eq 0 _ _ _ _ _).trans (by rw [lt_end]; rfl)⟩
  | u :: r, p, out, h, hl, ho => by
    simp only [List.length_cons] at hl
    have hu := h u (List.mem_cons_self ..)
    have e1 : IntKind.i64.wrap (((p.length : Nat) : Int) + 1) = ((p.length + 1 : Nat) : Int) := by rw [i64_id (by omega) (by omega)]; rfl
    have el : (p ++ [u]).length = p.length + 1 := by simp
    cases hm : memD u.1 tables
    · obtain ⟨f, hf⟩ := rsyn_0 h1 h2 r (p ++ [u]) out (fun e he => h e (List.mem_cons_of_mem _ he)) (by rw [el]; omega) (by rw [el]; omega)
      rw [el, List.append_assoc] at hf
      refine ⟨f + 1, (L_rsyn_0_eq f _ _ _ _ _).trans ?_⟩
      rw [lt_mid, getD_mid, ge0, h2, hm, e1]
      simp only [synL, hm]
      exact hf
    · have hp := putT_len out u (u.2.2.2.filter (keepM live))
      obtain ⟨f, hf⟩ := rsyn_0 h1 h2 r (p ++ [u]) (putT out u (u.2.2.2.filter (keepM live))) (fun e he => h e (List.mem_cons_of_mem _ he)) (by rw [el]; omega) (by rw [el]; omega)
      rw [el, List.append_assoc] at hf
      obtain ⟨f, hf⟩ := rsyn_2 (q := r) (R := synL live tables (putT out u (u.2.2.2.filter (keepM live))) r) h1 (by omega) (by omega) u.2.2.2 [] [] rfl (by simp; omega) (Nat.le_refl _) ⟨f, hf⟩
      refine ⟨f + 1, (L_rsyn_0_eq f _ _ _ _ _).trans ?_⟩
      rw [lt_mid, getD_mid, ge0, h2, hm]
      simp only [synL, hm]
      exact hf
theorem rsyn_run : ∀ a, (synPre : List SPT × List SId × List Int → Bool) a = true → ∃ f, M_rsyn f a = some (synS a) := by
  rintro ⟨ts, live, tables⟩ h
  obtain ⟨h0, h12⟩ := Bool.and_eq_true_iff.1 h
  obtain ⟨h1, h2⟩ := Bool.and_eq_true_iff.1 h12
  obtain ⟨f, hf⟩ := rsyn_0 h1 h2 ts [] [] (fun t ht => okT_mem h0 ht) (by simpa using okT_len h0) (Nat.le_refl _)
  exact ⟨f + 1, (M_rsyn_eq f _ _ _).trans hf⟩
noncomputable def E_rsyn : Ent := ⟨28, [.rd tSPT, .rd tSId, .rd [.int .i64]], [.o 60 4 tSPT], fun a => (synPre : (List (SPT)) × (List (SId)) × (List (Int)) → Bool) a, fun a => (synS : (List (SPT)) × (List (SId)) × (List (Int)) → (List (SPT))) a⟩
theorem E_rsyn_ok : E_rsyn.Ok Try.prog := fun a hp vs hv => (rsyn_run a hp).elim fun f h => fnX_ok (C := C_rsyn) (Lt := Lt_rsyn) (fn := Try.f28) (rs := [.tmp 6]) [.rd tSPT, .rd tSId, .rd [.int .i64]] [.o 60 4 tSPT] mixed es_rsyn Try.func28 rfl rfl rfl (by kernel_rfl) (by kernel_rfl) f h vs hv
end Go.AL
/-
  Layer 16: VspaceSyncExact: what it computes. By an AI agent.
-/
namespace Go.AL
open Go.Proofs
set_option linter.unusedVariables false
set_option linter.unusedSimpArgs false
theorem synL_mem (live : List SId) (tables : List Int) : ∀ (r out : List SPT) (t : SPT), t ∈ synL live tables out r → t ∈ out ∨ ∃ u ∈ r, memD u.1 tables = true ∧ t = (u.1, u.2.1, u.2.2.1, u.2.2.2.filter (keepM live)) ∧ 0 < t.2.2.2.length
  | [], out, t, h => .inl h
  | u :: r, out, t, h => by
    simp only [synL] at h
    cases hm : memD u.1 tables
    · rw [hm] at h
      rcases synL_mem live tables r out t h with h | ⟨v, h1, h2⟩
      · exact .inl h
      · exact .inr ⟨v, List.mem_cons_of_mem _ h1, h2⟩
    · rw [hm] at h
      rcases synL_mem live tables r _ t h with h | ⟨v, h1, h2⟩
      · unfold putT at h
        by_cases hk : (((u.2.2.2.filter (keepM live)).length : Nat) : Int) > 0
        · rw [decide_eq_true hk] at h
          rcases List.mem_append.1 h with h | h
          · exact .inl h
          · have e := List.mem_singleton.1 h
            exact .inr ⟨u, List.mem_cons_self .., hm, e, by rw [e]; show 0 < (u.2.2.2.filter (keepM live)).length; omega⟩
        · rw [decide_eq_false hk] at h
          exact .inl h
      · exact .inr ⟨v, List.mem_cons_of_mem _ h1, h2⟩
theorem synL_len (live : List SId) (tables : List Int) : ∀ (r out : List SPT), (synL live tables out r).length ≤ out.length + r.length
  | [], out => Nat.le_refl _
  | u :: r, out => by
    simp only [synL, List.length_cons]
    cases memD u.1 tables
    · have := synL_len live tables r out
      simp only [Bool.not_false, cond_true]; omega
    · have := synL_len live tables r (putT out u (u.2.2.2.filter (keepM live)))
      have := putT_len out u (u.2.2.2.filter (keepM live))
      simp only [Bool.not_true, cond_false]; omega
theorem synS_okN {n : Nat} (a : List SPT × List SId × List Int) (h : okN n a.1 = true) : okN n (synS a) = true := by
  have h1 := synL_len a.2.1 a.2.2 a.1 []
  refine okN_mk (by have := okN_len h; unfold synS; simp only [List.length_nil] at h1; omega) fun t ht => ?_
  rcases synL_mem a.2.1 a.2.2 a.1 [] t ht with h2 | ⟨u, h2, h3, h4, h5⟩
  · cases h2
  · rw [h4]
    exact Nat.le_trans (List.length_filter_le _ _) (okN_mem h h2)
noncomputable def C_vsx : Cfg := ⟨Try.prog, [E_few, E_awk, E_rctb, E_cids, E_syn, E_rsyn, E_stab], pmT [], 36, [], []⟩
theorem es_vsx : EsOk Try.prog [E_few, E_awk, E_rctb, E_cids, E_syn, E_rsyn, E_stab] [] := es_cons E_few_ok (es_cons E_awk_ok (es_cons E_rctb_ok (es_cons E_cids_ok (es_cons E_syn_ok (es_cons E_rsyn_ok (es_cons E_stab_ok (es_nil)))))))
def Lt_vsx : Nat → LD := ldT []
noncomputable def M_vsx (f : Nat) (a : (List (SPT)) × (List (SId)) × (List (Int))) : Option (Bool) := (runX (C_vsx) Lt_vsx (Kret Try.prog [.tmp 6] [.v (.bool)]) f [.code (bodyOf Try.f5)] (initX [.rd tSPT, .rd tSId, .rd [.int .i64]] a) : Option (ResT [.v (.bool)]))
theorem M_vsx_eq (f : Nat) (ts : List (SPT)) (live : List (SId)) (tables : List (Int)) : M_vsx (f + 1) (ts, live, tables) =
    bif !F_few ts then some true else bif decide ((↑live.length : Int) > 60) then some true else bif decide ((↑tables.length : Int) > 60) then some true else bif okT ts then bif len40n live then bif decide (tables.length * 8 ≤ 140737488355328) then bif synPre (ts, live, tables) then bif synPre (ts, live, tables) then bif okT (synS (ts, live, tables)) then bif decide (synS (ts, live, tables) = synS (ts, live, tables)) then some true else some false else none else none else none else none else none else none := by kernel_rfl
noncomputable def F_vsx : ((List (SPT)) × (List (SId)) × (List (Int))) → Bool
  | (ts, live, tables) => bif !F_few ts then true else bif decide ((↑live.length : Int) > 60) then true else bif decide ((↑tables.length : Int) > 60) then true else bif decide (synS (ts, live, tables) = synS (ts, live, tables)) then true else false
noncomputable def P_vsx : ((List (SPT)) × (List (SId)) × (List (Int))) → Bool
  | (ts, live, tables) => bif !F_few ts then true else bif decide ((↑live.length : Int) > 60) then true else bif decide ((↑tables.length : Int) > 60) then true else okT ts && (len40n live && (decide (tables.length * 8 ≤ 140737488355328) && (synPre (ts, live, tables) && (synPre (ts, live, tables) && okT (synS (ts, live, tables))))))
theorem vsx_auto : ∀ a : (List (SPT)) × (List (SId)) × (List (Int)), Rns (fun f => M_vsx f a) (P_vsx a) (F_vsx a)
  | (ts, live, tables) => ev_step (fun f => M_vsx_eq f _ _ _) (ev_bif ev_some (ev_bif ev_some (ev_bif ev_some (ev_chk (ev_chk (ev_chk (ev_chk (ev_chk (ev_chk1 (ev_bift ev_some ev_some))))))))))
theorem vsx_P : ∀ a : List SPT × List SId × List Int, P_vsx a = true := by
  rintro ⟨ts, live, tables⟩
  simp only [P_vsx]
  cases hf : F_few ts
  · rfl
  have hf := few_okN hf
  by_cases h1 : ((live.length : Nat) : Int) > 60
  · rw [decide_eq_true h1]; rfl
  by_cases h2 : ((tables.length : Nat) : Int) > 60
  · rw [decide_eq_true h2, decide_eq_false h1]; rfl
  rw [decide_eq_false h1, decide_eq_false h2]
  have k1 : okT ts = true := okN_okT (by omega) hf
  have k2 : len40n live = true := decide_eq_true (by omega)
  have k3 : len40n tables = true := decide_eq_true (by omega)
  have k4 : okT (synS (ts, live, tables)) = true := okN_okT (by omega) (synS_okN (ts, live, tables) hf)
  have k5 : decide (tables.length * 8 ≤ 140737488355328) = true := decide_eq_true (by omega)
  simp only [synPre, k1, k2, k3, k4, k5]; rfl
theorem vsx_true : ∀ a : List SPT × List SId × List Int, ∃ f, M_vsx f a = some true := fun a => by
  have h := vsx_auto a (vsx_P a)
  have e : F_vsx a = true := by obtain ⟨ts, live, tables⟩ := a; simp [F_vsx]
  rw [e] at h; exact h
end Go.AL
