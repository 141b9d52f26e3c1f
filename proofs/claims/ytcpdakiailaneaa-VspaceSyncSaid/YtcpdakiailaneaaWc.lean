/-
  Layer 16: walks, Sync and caches: models. By an AI agent.
-/
import Derived.Test.YtcpdakiailaneaaV5
import Derived.Test.YtcpdakiailaneaaVe
import Derived.Test.YtcpdakiailaneaaV3
namespace Go.AL
open Go.Proofs
set_option linter.unusedVariables false
set_option linter.unusedSimpArgs false
theorem ctr_P : ∀ t : STr, (fun t : STr => len40n t.2.2.2.2.1 && len40n t.2.2.2.2.2) t = true → P_ctr t = true := fun t h => h
theorem ctr_F : ∀ t : STr, (fun t : STr => len40n t.2.2.2.2.1 && len40n t.2.2.2.2.2) t = true → F_ctr t = (fun t => t) t := fun t h => rfl
theorem ctr_run : ∀ a, (fun t : STr => len40n t.2.2.2.2.1 && len40n t.2.2.2.2.2 : STr → Bool) a = true → ∃ f, M_ctr f a = some ((fun t => t : STr → STr) a) := fun a h => by have h1 := ctr_auto a (ctr_P a h); rw [ctr_F a h] at h1; exact h1
noncomputable def E_ctr : Ent := ⟨70, [.g tSTr], [.g tSTr], fun a => (fun t : STr => len40n t.2.2.2.2.1 && len40n t.2.2.2.2.2 : STr → Bool) a, fun a => (fun t => t : STr → STr) a⟩
theorem E_ctr_ok : E_ctr.Ok Try.prog := fun a hp vs hv => (ctr_run a hp).elim fun f h => fnX_ok (C := C_ctr) (Lt := Lt_ctr) (fn := Try.f70) (rs := [.cell 2 45]) [.g tSTr] [.g tSTr] mixed es_ctr Try.func70 rfl rfl rfl (by kernel_rfl) (by kernel_rfl) f h vs hv
instance decSTr : DecidableEq STr := @instDecidableEqProd _ _ (inferInstanceAs (DecidableEq Int)) (@instDecidableEqProd _ _ (inferInstanceAs (DecidableEq Int)) (@instDecidableEqProd _ _ (inferInstanceAs (DecidableEq Int)) (@instDecidableEqProd _ _ (inferInstanceAs (DecidableEq Int)) (@instDecidableEqProd _ _ (inferInstanceAs (DecidableEq (List (Int × Int × Int)))) (inferInstanceAs (DecidableEq (List Int)))))))
def taS (ts : List SPT) (b : Int) : SPT := ts.getD (ftS ts b).toNat (0, 0, 0, [])
def faS (ts : List SPT) (w addr lv b : Int) : Int := fmS (taS ts b).2.2.2 (ixS (w, lv, addr))
def maS (ts : List SPT) (w addr lv b : Int) : SMp := List.getD (taS ts b).2.2.2 (faS ts w addr lv b).toNat (0, 0, 0, 0, 0, 0)
section
variable {ρ : Type} {A B : Nat → Option ρ} {c p : Bool} {x : ρ}
theorem evx_chk (ha : Rns A p x) : Rns (fun f => bif c then A f else B f) (c && p) x := by
  cases c
  · intro h; cases h
  · exact ha
theorem evx_chk1 (ha : Rns A true x) : Rns (fun f => bif c then A f else B f) c x := by
  cases c
  · intro h; cases h
  · exact ha
end
noncomputable def C_wlk : Cfg := ⟨Try.prog, [E_vval, E_geom, E_vcap, E_pva, E_find, E_pix, E_mapg], pmT [(14, ([(0, []), (1, []), (2, []), (3, []), (4, []), (5, []), (6, []), (7, []), (8, []), (9, []), (10, []), (11, []), (12, []), (13, []), (14, []), (15, []), (16, []), (17, []), (18, []), (19, []), (20, [])], [(72, 92)])), (16, ([(0, []), (1, []), (2, []), (3, []), (4, []), (5, []), (6, []), (7, []), (8, []), (9, []), (10, []), (11, []), (12, []), (13, []), (14, [])], [(16, 17), (94, 106)])), (22, ([(0, []), (1, []), (4, []), (2, [5]), (3, [5]), (5, []), (6, []), (7, [])], [(131, 136)]))], 140, [], []⟩
theorem es_wlk : EsOk Try.prog [E_vval, E_geom, E_vcap, E_pva, E_find, E_pix, E_mapg] [] := es_cons E_vval_ok (es_cons E_geom_ok (es_cons E_vcap_ok (es_cons E_pva_ok (es_cons E_find_ok (es_cons E_pix_ok (es_cons E_mapg_ok (es_nil)))))))
def Lt_wlk : Nat → LD := ldT [(0, ⟨[], [(0, 0)], 0⟩)]
noncomputable def M_wlk (f : Nat) (a : (List (SPT)) × SCp × Int) : Option (STr × Int) := (runX (C_wlk) Lt_wlk (Kret Try.prog [.cell 6 45, .tmp 7] [.g tSTr, .v (.int .i64)]) f [.code (bodyOf Try.f21)] (initX [.rd tSPT, .g tSCp, .c (.int .i64)] a) : Option (ResT [.g tSTr, .v (.int .i64)]))
theorem M_wlk_eq (f : Nat) (ts : List (SPT)) (root : SCp) (addr : Int) : M_wlk (f + 1) (ts, root, addr) =
    bif okM ts then bif !tabsB ts then some ((0, 0, 0, 0, [], []), 1) else bif !vcapB root then some ((0, 0, 0, 0, [], []), 5) else bif root.1 != 3 then some ((0, 0, 0, 0, [], []), 5) else bif root.2.2.2.2.2.1 != IntKind.i64.wrap ((geoS root.2.2.2.2.1).1 - 1) then some ((0, 0, 0, 0, [], []), 5) else bif !vaS (root.2.2.2.2.1, addr) then some ((0, 0, 0, 0, [], []), 6) else bif decide (root.2.2.2.2.2.1 ≥ 0) then bif len40n ts then bif !decide (ftS ts root.2.1 ≥ 0) then some ((0, 0, 0, 0, [], []), 13) else bif decide (0 ≤ ftS ts root.2.1) && decide (ftS ts root.2.1 < (↑ts.length : Int)) then bif (taS ts root.2.1).2.1 != root.2.2.2.2.1 then some ((0, 0, 0, 0, [], []), 13) else bif decide (0 ≤ ftS ts root.2.1) && decide (ftS ts root.2.1 < (↑ts.length : Int)) then bif (taS ts root.2.1).2.2.1 != root.2.2.2.2.2.1 then some ((0, 0, 0, 0, [], []), 13) else bif decide (0 ≤ ftS ts root.2.1) && decide (ftS ts root.2.1 < (↑ts.length : Int)) then bif len40n (taS ts root.2.1).2.2.2 then bif !decide (faS ts root.2.2.2.2.1 addr root.2.2.2.2.2.1 root.2.1 ≥ 0) then some ((0, 0, 0, 0, [], []), 13) else bif decide (0 ≤ ftS ts root.2.1) && decide (ftS ts root.2.1 < (↑ts.length : Int)) then bif decide (0 ≤ faS ts root.2.2.2.2.1 addr root.2.2.2.2.2.1 root.2.1) && decide (faS ts root.2.2.2.2.1 addr root.2.2.2.2.2.1 root.2.1 < (↑(List.length (taS ts root.2.1).2.2.2) : Int)) then bif decide (IntKind.i64.wrap (root.2.2.2.2.2.1 - 1) ≥ 0) then bif len40n ts then bif !decide (ftS ts (maS ts root.2.2.2.2.1 addr root.2.2.2.2.2.1 root.2.1).2.1 ≥ 0) then some ((0, 0, 0, 0, [], []), 13) else bif decide (0 ≤ ftS ts (maS ts root.2.2.2.2.1 addr root.2.2.2.2.2.1 root.2.1).2.1) && decide (ftS ts (maS ts root.2.2.2.2.1 addr root.2.2.2.2.2.1 root.2.1).2.1 < (↑ts.length : Int)) then bif (taS ts (maS ts root.2.2.2.2.1 addr root.2.2.2.2.2.1 root.2.1).2.1).2.1 != root.2.2.2.2.1 then some ((0, 0, 0, 0, [], []), 13) else bif decide (0 ≤ ftS ts (maS ts root.2.2.2.2.1 addr root.2.2.2.2.2.1 root.2.1).2.1) && decide (ftS ts (maS ts root.2.2.2.2.1 addr root.2.2.2.2.2.1 root.2.1).2.1 < (↑ts.length : Int)) then bif (taS ts (maS ts root.2.2.2.2.1 addr root.2.2.2.2.2.1 root.2.1).2.1).2.2.1 != IntKind.i64.wrap (root.2.2.2.2.2.1 - 1) then some ((0, 0, 0, 0, [], []), 13) else bif decide (0 ≤ ftS ts (maS ts root.2.2.2.2.1 addr root.2.2.2.2.2.1 root.2.1).2.1) && decide (ftS ts (maS ts root.2.2.2.2.1 addr root.2.2.2.2.2.1 root.2.1).2.1 < (↑ts.length : Int)) then bif len40n (taS ts (maS ts root.2.2.2.2.1 addr root.2.2.2.2.2.1 root.2.1).2.1).2.2.2 then bif !decide (faS ts root.2.2.2.2.1 addr (IntKind.i64.wrap (root.2.2.2.2.2.1 - 1)) (maS ts root.2.2.2.2.1 addr root.2.2.2.2.2.1 root.2.1).2.1 ≥ 0) then some ((0, 0, 0, 0, [], []), 13) else bif decide (0 ≤ ftS ts (maS ts root.2.2.2.2.1 addr root.2.2.2.2.2.1 root.2.1).2.1) && decide (ftS ts (maS ts root.2.2.2.2.1 addr root.2.2.2.2.2.1 root.2.1).2.1 < (↑ts.length : Int)) then bif decide (0 ≤ faS ts root.2.2.2.2.1 addr (IntKind.i64.wrap (root.2.2.2.2.2.1 - 1)) (maS ts root.2.2.2.2.1 addr root.2.2.2.2.2.1 root.2.1).2.1) && decide (faS ts root.2.2.2.2.1 addr (IntKind.i64.wrap (root.2.2.2.2.2.1 - 1)) (maS ts root.2.2.2.2.1 addr root.2.2.2.2.2.1 root.2.1).2.1 < (↑(List.length (taS ts (maS ts root.2.2.2.2.1 addr root.2.2.2.2.2.1 root.2.1).2.1).2.2.2) : Int)) then bif decide (IntKind.i64.wrap (IntKind.i64.wrap (root.2.2.2.2.2.1 - 1) - 1) ≥ 0) then bif len40n ts then bif !decide (ftS ts (maS ts root.2.2.2.2.1 addr (IntKind.i64.wrap (root.2.2.2.2.2.1 - 1)) (maS ts root.2.2.2.2.1 addr root.2.2.2.2.2.1 root.2.1).2.1).2.1 ≥ 0) then some ((0, 0, 0, 0, [], []), 13) else bif decide (0 ≤ ftS ts (maS ts root.2.2.2.2.1 addr (IntKind.i64.wrap (root.2.2.2.2.2.1 - 1)) (maS ts root.2.2.2.2.1 addr root.2.2.2.2.2.1 root.2.1).2.1).2.1) && decide (ftS ts (maS ts root.2.2.2.2.1 addr (IntKind.i64.wrap (root.2.2.2.2.2.1 - 1)) (maS ts root.2.2.2.2.1 addr root.2.2.2.2.2.1 root.2.1).2.1).2.1 < (↑ts.length : Int)) then bif (taS ts (maS ts root.2.2.2.2.1 addr (IntKind.i64.wrap (root.2.2.2.2.2.1 - 1)) (maS ts root.2.2.2.2.1 addr root.2.2.2.2.2.1 root.2.1).2.1).2.1).2.1 != root.2.2.2.2.1 then some ((0, 0, 0, 0, [], []), 13) else bif decide (0 ≤ ftS ts (maS ts root.2.2.2.2.1 addr (IntKind.i64.wrap (root.2.2.2.2.2.1 - 1)) (maS ts root.2.2.2.2.1 addr root.2.2.2.2.2.1 root.2.1).2.1).2.1) && decide (ftS ts (maS ts root.2.2.2.2.1 addr (IntKind.i64.wrap (root.2.2.2.2.2.1 - 1)) (maS ts root.2.2.2.2.1 addr root.2.2.2.2.2.1 root.2.1).2.1).2.1 < (↑ts.length : Int)) then bif (taS ts (maS ts root.2.2.2.2.1 addr (IntKind.i64.wrap (root.2.2.2.2.2.1 - 1)) (maS ts root.2.2.2.2.1 addr root.2.2.2.2.2.1 root.2.1).2.1).2.1).2.2.1 != IntKind.i64.wrap (IntKind.i64.wrap (root.2.2.2.2.2.1 - 1) - 1) then some ((0, 0, 0, 0, [], []), 13) else bif decide (0 ≤ ftS ts (maS ts root.2.2.2.2.1 addr (IntKind.i64.wrap (root.2.2.2.2.2.1 - 1)) (maS ts root.2.2.2.2.1 addr root.2.2.2.2.2.1 root.2.1).2.1).2.1) && decide (ftS ts (maS ts root.2.2.2.2.1 addr (IntKind.i64.wrap (root.2.2.2.2.2.1 - 1)) (maS ts root.2.2.2.2.1 addr root.2.2.2.2.2.1 root.2.1).2.1).2.1 < (↑ts.length : Int)) then bif len40n (taS ts (maS ts root.2.2.2.2.1 addr (IntKind.i64.wrap (root.2.2.2.2.2.1 - 1)) (maS ts root.2.2.2.2.1 addr root.2.2.2.2.2.1 root.2.1).2.1).2.1).2.2.2 then bif !decide (faS ts root.2.2.2.2.1 addr (IntKind.i64.wrap (IntKind.i64.wrap (root.2.2.2.2.2.1 - 1) - 1)) (maS ts root.2.2.2.2.1 addr (IntKind.i64.wrap (root.2.2.2.2.2.1 - 1)) (maS ts root.2.2.2.2.1 addr root.2.2.2.2.2.1 root.2.1).2.1).2.1 ≥ 0) then some ((0, 0, 0, 0, [], []), 13) else bif decide (0 ≤ ftS ts (maS ts root.2.2.2.2.1 addr (IntKind.i64.wrap (root.2.2.2.2.2.1 - 1)) (maS ts root.2.2.2.2.1 addr root.2.2.2.2.2.1 root.2.1).2.1).2.1) && decide (ftS ts (maS ts root.2.2.2.2.1 addr (IntKind.i64.wrap (root.2.2.2.2.2.1 - 1)) (maS ts root.2.2.2.2.1 addr root.2.2.2.2.2.1 root.2.1).2.1).2.1 < (↑ts.length : Int)) then bif decide (0 ≤ faS ts root.2.2.2.2.1 addr (IntKind.i64.wrap (IntKind.i64.wrap (root.2.2.2.2.2.1 - 1) - 1)) (maS ts root.2.2.2.2.1 addr (IntKind.i64.wrap (root.2.2.2.2.2.1 - 1)) (maS ts root.2.2.2.2.1 addr root.2.2.2.2.2.1 root.2.1).2.1).2.1) && decide (faS ts root.2.2.2.2.1 addr (IntKind.i64.wrap (IntKind.i64.wrap (root.2.2.2.2.2.1 - 1) - 1)) (maS ts root.2.2.2.2.1 addr (IntKind.i64.wrap (root.2.2.2.2.2.1 - 1)) (maS ts root.2.2.2.2.1 addr root.2.2.2.2.2.1 root.2.1).2.1).2.1 < (↑(List.length (taS ts (maS ts root.2.2.2.2.1 addr (IntKind.i64.wrap (root.2.2.2.2.2.1 - 1)) (maS ts root.2.2.2.2.1 addr root.2.2.2.2.2.1 root.2.1).2.1).2.1).2.2.2) : Int)) then bif decide (IntKind.i64.wrap (IntKind.i64.wrap (IntKind.i64.wrap (root.2.2.2.2.2.1 - 1) - 1) - 1) ≥ 0) then bif len40n ts then bif !decide (ftS ts (maS ts root.2.2.2.2.1 addr (IntKind.i64.wrap (IntKind.i64.wrap (root.2.2.2.2.2.1 - 1) - 1)) (maS ts root.2.2.2.2.1 addr (IntKind.i64.wrap (root.2.2.2.2.2.1 - 1)) (maS ts root.2.2.2.2.1 addr root.2.2.2.2.2.1 root.2.1).2.1).2.1).2.1 ≥ 0) then some ((0, 0, 0, 0, [], []), 13) else bif decide (0 ≤ ftS ts (maS ts root.2.2.2.2.1 addr (IntKind.i64.wrap (IntKind.i64.wrap (root.2.2.2.2.2.1 - 1) - 1)) (maS ts root.2.2.2.2.1 addr (IntKind.i64.wrap (root.2.2.2.2.2.1 - 1)) (maS ts root.2.2.2.2.1 addr root.2.2.2.2.2.1 root.2.1).2.1).2.1).2.1) && decide (ftS ts (maS ts root.2.2.2.2.1 addr (IntKind.i64.wrap (IntKind.i64.wrap (root.2.2.2.2.2.1 - 1) - 1)) (maS ts root.2.2.2.2.1 addr (IntKind.i64.wrap (root.2.2.2.2.2.1 - 1)) (maS ts root.2.2.2.2.1 addr root.2.2.2.2.2.1 root.2.1).2.1).2.1).2.1 < (↑ts.length : Int)) then bif (taS ts (maS ts root.2.2.2.2.1 addr (IntKind.i64.wrap (IntKind.i64.wrap (root.2.2.2.2.2.1 - 1) - 1)) (maS ts root.2.2.2.2.1 addr (IntKind.i64.wrap (root.2.2.2.2.2.1 - 1)) (maS ts root.2.2.2.2.1 addr root.2.2.2.2.2.1 root.2.1).2.1).2.1).2.1).2.1 != root.2.2.2.2.1 then some ((0, 0, 0, 0, [], []), 13) else bif decide (0 ≤ ftS ts (maS ts root.2.2.2.2.1 addr (IntKind.i64.wrap (IntKind.i64.wrap (root.2.2.2.2.2.1 - 1) - 1)) (maS ts root.2.2.2.2.1 addr (IntKind.i64.wrap (root.2.2.2.2.2.1 - 1)) (maS ts root.2.2.2.2.1 addr root.2.2.2.2.2.1 root.2.1).2.1).2.1).2.1) && decide (ftS ts (maS ts root.2.2.2.2.1 addr (IntKind.i64.wrap (IntKind.i64.wrap (root.2.2.2.2.2.1 - 1) - 1)) (maS ts root.2.2.2.2.1 addr (IntKind.i64.wrap (root.2.2.2.2.2.1 - 1)) (maS ts root.2.2.2.2.1 addr root.2.2.2.2.2.1 root.2.1).2.1).2.1).2.1 < (↑ts.length : Int)) then bif (taS ts (maS ts root.2.2.2.2.1 addr (IntKind.i64.wrap (IntKind.i64.wrap (root.2.2.2.2.2.1 - 1) - 1)) (maS ts root.2.2.2.2.1 addr (IntKind.i64.wrap (root.2.2.2.2.2.1 - 1)) (maS ts root.2.2.2.2.1 addr root.2.2.2.2.2.1 root.2.1).2.1).2.1).2.1).2.2.1 != IntKind.i64.wrap (IntKind.i64.wrap (IntKind.i64.wrap (root.2.2.2.2.2.1 - 1) - 1) - 1) then some ((0, 0, 0, 0, [], []), 13) else bif decide (0 ≤ ftS ts (maS ts root.2.2.2.2.1 addr (IntKind.i64.wrap (IntKind.i64.wrap (root.2.2.2.2.2.1 - 1) - 1)) (maS ts root.2.2.2.2.1 addr (IntKind.i64.wrap (root.2.2.2.2.2.1 - 1)) (maS ts root.2.2.2.2.1 addr root.2.2.2.2.2.1 root.2.1).2.1).2.1).2.1) && decide (ftS ts (maS ts root.2.2.2.2.1 addr (IntKind.i64.wrap (IntKind.i64.wrap (root.2.2.2.2.2.1 - 1) - 1)) (maS ts root.2.2.2.2.1 addr (IntKind.i64.wrap (root.2.2.2.2.2.1 - 1)) (maS ts root.2.2.2.2.1 addr root.2.2.2.2.2.1 root.2.1).2.1).2.1).2.1 < (↑ts.length : Int)) then bif len40n (taS ts (maS ts root.2.2.2.2.1 addr (IntKind.i64.wrap (IntKind.i64.wrap (root.2.2.2.2.2.1 - 1) - 1)) (maS ts root.2.2.2.2.1 addr (IntKind.i64.wrap (root.2.2.2.2.2.1 - 1)) (maS ts root.2.2.2.2.1 addr root.2.2.2.2.2.1 root.2.1).2.1).2.1).2.1).2.2.2 then bif !decide (faS ts root.2.2.2.2.1 addr (IntKind.i64.wrap (IntKind.i64.wrap (IntKind.i64.wrap (root.2.2.2.2.2.1 - 1) - 1) - 1)) (maS ts root.2.2.2.2.1 addr (IntKind.i64.wrap (IntKind.i64.wrap (root.2.2.2.2.2.1 - 1) - 1)) (maS ts root.2.2.2.2.1 addr (IntKind.i64.wrap (root.2.2.2.2.2.1 - 1)) (maS ts root.2.2.2.2.1 addr root.2.2.2.2.2.1 root.2.1).2.1).2.1).2.1 ≥ 0) then some ((0, 0, 0, 0, [], []), 13) else bif decide (0 ≤ ftS ts (maS ts root.2.2.2.2.1 addr (IntKind.i64.wrap (IntKind.i64.wrap (root.2.2.2.2.2.1 - 1) - 1)) (maS ts root.2.2.2.2.1 addr (IntKind.i64.wrap (root.2.2.2.2.2.1 - 1)) (maS ts root.2.2.2.2.1 addr root.2.2.2.2.2.1 root.2.1).2.1).2.1).2.1) && decide (ftS ts (maS ts root.2.2.2.2.1 addr (IntKind.i64.wrap (IntKind.i64.wrap (root.2.2.2.2.2.1 - 1) - 1)) (maS ts root.2.2.2.2.1 addr (IntKind.i64.wrap (root.2.2.2.2.2.1 - 1)) (maS ts root.2.2.2.2.1 addr root.2.2.2.2.2.1 root.2.1).2.1).2.1).2.1 < (↑ts.length : Int)) then bif decide (0 ≤ faS ts root.2.2.2.2.1 addr (IntKind.i64.wrap (IntKind.i64.wrap (IntKind.i64.wrap (root.2.2.2.2.2.1 - 1) - 1) - 1)) (maS ts root.2.2.2.2.1 addr (IntKind.i64.wrap (IntKind.i64.wrap (root.2.2.2.2.2.1 - 1) - 1)) (maS ts root.2.2.2.2.1 addr (IntKind.i64.wrap (root.2.2.2.2.2.1 - 1)) (maS ts root.2.2.2.2.1 addr root.2.2.2.2.2.1 root.2.1).2.1).2.1).2.1) && decide (faS ts root.2.2.2.2.1 addr (IntKind.i64.wrap (IntKind.i64.wrap (IntKind.i64.wrap (root.2.2.2.2.2.1 - 1) - 1) - 1)) (maS ts root.2.2.2.2.1 addr (IntKind.i64.wrap (IntKind.i64.wrap (root.2.2.2.2.2.1 - 1) - 1)) (maS ts root.2.2.2.2.1 addr (IntKind.i64.wrap (root.2.2.2.2.2.1 - 1)) (maS ts root.2.2.2.2.1 addr root.2.2.2.2.2.1 root.2.1).2.1).2.1).2.1 < (↑(List.length (taS ts (maS ts root.2.2.2.2.1 addr (IntKind.i64.wrap (IntKind.i64.wrap (root.2.2.2.2.2.1 - 1) - 1)) (maS ts root.2.2.2.2.1 addr (IntKind.i64.wrap (root.2.2.2.2.2.1 - 1)) (maS ts root.2.2.2.2.1 addr root.2.2.2.2.2.1 root.2.1).2.1).2.1).2.1).2.2.2) : Int)) then none else none else none else none else none else none else none else none else some ((root.2.1, addr.fdiv (2 ^ min (Int.toNat 12) IntKind.i64.bits), (maS ts root.2.2.2.2.1 addr (IntKind.i64.wrap (IntKind.i64.wrap (root.2.2.2.2.2.1 - 1) - 1)) (maS ts root.2.2.2.2.1 addr (IntKind.i64.wrap (root.2.2.2.2.2.1 - 1)) (maS ts root.2.2.2.2.1 addr root.2.2.2.2.2.1 root.2.1).2.1).2.1).2.1, (maS ts root.2.2.2.2.1 addr (IntKind.i64.wrap (IntKind.i64.wrap (root.2.2.2.2.2.1 - 1) - 1)) (maS ts root.2.2.2.2.1 addr (IntKind.i64.wrap (root.2.2.2.2.2.1 - 1)) (maS ts root.2.2.2.2.1 addr root.2.2.2.2.2.1 root.2.1).2.1).2.1).2.2.1, [(maS ts root.2.2.2.2.1 addr root.2.2.2.2.2.1 root.2.1).2.2.2] ++ [(maS ts root.2.2.2.2.1 addr (IntKind.i64.wrap (root.2.2.2.2.2.1 - 1)) (maS ts root.2.2.2.2.1 addr root.2.2.2.2.2.1 root.2.1).2.1).2.2.2] ++ [(maS ts root.2.2.2.2.1 addr (IntKind.i64.wrap (IntKind.i64.wrap (root.2.2.2.2.2.1 - 1) - 1)) (maS ts root.2.2.2.2.1 addr (IntKind.i64.wrap (root.2.2.2.2.2.1 - 1)) (maS ts root.2.2.2.2.1 addr root.2.2.2.2.2.1 root.2.1).2.1).2.1).2.2.2], [root.2.1] ++ [(maS ts root.2.2.2.2.1 addr root.2.2.2.2.2.1 root.2.1).2.1] ++ [(maS ts root.2.2.2.2.1 addr (IntKind.i64.wrap (root.2.2.2.2.2.1 - 1)) (maS ts root.2.2.2.2.1 addr root.2.2.2.2.2.1 root.2.1).2.1).2.1]), 0) else none else none else none else none else none else none else none else some ((root.2.1, addr.fdiv (2 ^ min (Int.toNat 12) IntKind.i64.bits), (maS ts root.2.2.2.2.1 addr (IntKind.i64.wrap (root.2.2.2.2.2.1 - 1)) (maS ts root.2.2.2.2.1 addr root.2.2.2.2.2.1 root.2.1).2.1).2.1, (maS ts root.2.2.2.2.1 addr (IntKind.i64.wrap (root.2.2.2.2.2.1 - 1)) (maS ts root.2.2.2.2.1 addr root.2.2.2.2.2.1 root.2.1).2.1).2.2.1, [(maS ts root.2.2.2.2.1 addr root.2.2.2.2.2.1 root.2.1).2.2.2] ++ [(maS ts root.2.2.2.2.1 addr (IntKind.i64.wrap (root.2.2.2.2.2.1 - 1)) (maS ts root.2.2.2.2.1 addr root.2.2.2.2.2.1 root.2.1).2.1).2.2.2], [root.2.1] ++ [(maS ts root.2.2.2.2.1 addr root.2.2.2.2.2.1 root.2.1).2.1]), 0) else none else none else none else none else none else none else none else some ((root.2.1, addr.fdiv (2 ^ min (Int.toNat 12) IntKind.i64.bits), (maS ts root.2.2.2.2.1 addr root.2.2.2.2.2.1 root.2.1).2.1, (maS ts root.2.2.2.2.1 addr root.2.2.2.2.2.1 root.2.1).2.2.1, [(maS ts root.2.2.2.2.1 addr root.2.2.2.2.2.1 root.2.1).2.2.2], [root.2.1]), 0) else none else none else none else none else none else none else none else some ((root.2.1, addr.fdiv (2 ^ min (Int.toNat 12) IntKind.i64.bits), 0, 0, [], []), 0) else none := by kernel_rfl
noncomputable def F_wlk : ((List (SPT)) × SCp × Int) → STr × Int
  | (ts, root, addr) => bif !tabsB ts then ((0, 0, 0, 0, [], []), 1) else bif !vcapB root then ((0, 0, 0, 0, [], []), 5) else bif root.1 != 3 then ((0, 0, 0, 0, [], []), 5) else bif root.2.2.2.2.2.1 != IntKind.i64.wrap ((geoS root.2.2.2.2.1).1 - 1) then ((0, 0, 0, 0, [], []), 5) else bif !vaS (root.2.2.2.2.1, addr) then ((0, 0, 0, 0, [], []), 6) else bif decide (root.2.2.2.2.2.1 ≥ 0) then bif !decide (ftS ts root.2.1 ≥ 0) then ((0, 0, 0, 0, [], []), 13) else bif (taS ts root.2.1).2.1 != root.2.2.2.2.1 then ((0, 0, 0, 0, [], []), 13) else bif (taS ts root.2.1).2.2.1 != root.2.2.2.2.2.1 then ((0, 0, 0, 0, [], []), 13) else bif !decide (faS ts root.2.2.2.2.1 addr root.2.2.2.2.2.1 root.2.1 ≥ 0) then ((0, 0, 0, 0, [], []), 13) else bif decide (IntKind.i64.wrap (root.2.2.2.2.2.1 - 1) ≥ 0) then bif !decide (ftS ts (maS ts root.2.2.2.2.1 addr root.2.2.2.2.2.1 root.2.1).2.1 ≥ 0) then ((0, 0, 0, 0, [], []), 13) else bif (taS ts (maS ts root.2.2.2.2.1 addr root.2.2.2.2.2.1 root.2.1).2.1).2.1 != root.2.2.2.2.1 then ((0, 0, 0, 0, [], []), 13) else bif (taS ts (maS ts root.2.2.2.2.1 addr root.2.2.2.2.2.1 root.2.1).2.1).2.2.1 != IntKind.i64.wrap (root.2.2.2.2.2.1 - 1) then ((0, 0, 0, 0, [], []), 13) else bif !decide (faS ts root.2.2.2.2.1 addr (IntKind.i64.wrap (root.2.2.2.2.2.1 - 1)) (maS ts root.2.2.2.2.1 addr root.2.2.2.2.2.1 root.2.1).2.1 ≥ 0) then ((0, 0, 0, 0, [], []), 13) else bif decide (IntKind.i64.wrap (IntKind.i64.wrap (root.2.2.2.2.2.1 - 1) - 1) ≥ 0) then bif !decide (ftS ts (maS ts root.2.2.2.2.1 addr (IntKind.i64.wrap (root.2.2.2.2.2.1 - 1)) (maS ts root.2.2.2.2.1 addr root.2.2.2.2.2.1 root.2.1).2.1).2.1 ≥ 0) then ((0, 0, 0, 0, [], []), 13) else bif (taS ts (maS ts root.2.2.2.2.1 addr (IntKind.i64.wrap (root.2.2.2.2.2.1 - 1)) (maS ts root.2.2.2.2.1 addr root.2.2.2.2.2.1 root.2.1).2.1).2.1).2.1 != root.2.2.2.2.1 then ((0, 0, 0, 0, [], []), 13) else bif (taS ts (maS ts root.2.2.2.2.1 addr (IntKind.i64.wrap (root.2.2.2.2.2.1 - 1)) (maS ts root.2.2.2.2.1 addr root.2.2.2.2.2.1 root.2.1).2.1).2.1).2.2.1 != IntKind.i64.wrap (IntKind.i64.wrap (root.2.2.2.2.2.1 - 1) - 1) then ((0, 0, 0, 0, [], []), 13) else bif !decide (faS ts root.2.2.2.2.1 addr (IntKind.i64.wrap (IntKind.i64.wrap (root.2.2.2.2.2.1 - 1) - 1)) (maS ts root.2.2.2.2.1 addr (IntKind.i64.wrap (root.2.2.2.2.2.1 - 1)) (maS ts root.2.2.2.2.1 addr root.2.2.2.2.2.1 root.2.1).2.1).2.1 ≥ 0) then ((0, 0, 0, 0, [], []), 13) else bif decide (IntKind.i64.wrap (IntKind.i64.wrap (IntKind.i64.wrap (root.2.2.2.2.2.1 - 1) - 1) - 1) ≥ 0) then bif !decide (ftS ts (maS ts root.2.2.2.2.1 addr (IntKind.i64.wrap (IntKind.i64.wrap (root.2.2.2.2.2.1 - 1) - 1)) (maS ts root.2.2.2.2.1 addr (IntKind.i64.wrap (root.2.2.2.2.2.1 - 1)) (maS ts root.2.2.2.2.1 addr root.2.2.2.2.2.1 root.2.1).2.1).2.1).2.1 ≥ 0) then ((0, 0, 0, 0, [], []), 13) else bif (taS ts (maS ts root.2.2.2.2.1 addr (IntKind.i64.wrap (IntKind.i64.wrap (root.2.2.2.2.2.1 - 1) - 1)) (maS ts root.2.2.2.2.1 addr (IntKind.i64.wrap (root.2.2.2.2.2.1 - 1)) (maS ts root.2.2.2.2.1 addr root.2.2.2.2.2.1 root.2.1).2.1).2.1).2.1).2.1 != root.2.2.2.2.1 then ((0, 0, 0, 0, [], []), 13) else bif (taS ts (maS ts root.2.2.2.2.1 addr (IntKind.i64.wrap (IntKind.i64.wrap (root.2.2.2.2.2.1 - 1) - 1)) (maS ts root.2.2.2.2.1 addr (IntKind.i64.wrap (root.2.2.2.2.2.1 - 1)) (maS ts root.2.2.2.2.1 addr root.2.2.2.2.2.1 root.2.1).2.1).2.1).2.1).2.2.1 != IntKind.i64.wrap (IntKind.i64.wrap (IntKind.i64.wrap (root.2.2.2.2.2.1 - 1) - 1) - 1) then ((0, 0, 0, 0, [], []), 13) else ((0, 0, 0, 0, [], []), 13) else ((root.2.1, addr.fdiv (2 ^ min (Int.toNat 12) IntKind.i64.bits), (maS ts root.2.2.2.2.1 addr (IntKind.i64.wrap (IntKind.i64.wrap (root.2.2.2.2.2.1 - 1) - 1)) (maS ts root.2.2.2.2.1 addr (IntKind.i64.wrap (root.2.2.2.2.2.1 - 1)) (maS ts root.2.2.2.2.1 addr root.2.2.2.2.2.1 root.2.1).2.1).2.1).2.1, (maS ts root.2.2.2.2.1 addr (IntKind.i64.wrap (IntKind.i64.wrap (root.2.2.2.2.2.1 - 1) - 1)) (maS ts root.2.2.2.2.1 addr (IntKind.i64.wrap (root.2.2.2.2.2.1 - 1)) (maS ts root.2.2.2.2.1 addr root.2.2.2.2.2.1 root.2.1).2.1).2.1).2.2.1, [(maS ts root.2.2.2.2.1 addr root.2.2.2.2.2.1 root.2.1).2.2.2] ++ [(maS ts root.2.2.2.2.1 addr (IntKind.i64.wrap (root.2.2.2.2.2.1 - 1)) (maS ts root.2.2.2.2.1 addr root.2.2.2.2.2.1 root.2.1).2.1).2.2.2] ++ [(maS ts root.2.2.2.2.1 addr (IntKind.i64.wrap (IntKind.i64.wrap (root.2.2.2.2.2.1 - 1) - 1)) (maS ts root.2.2.2.2.1 addr (IntKind.i64.wrap (root.2.2.2.2.2.1 - 1)) (maS ts root.2.2.2.2.1 addr root.2.2.2.2.2.1 root.2.1).2.1).2.1).2.2.2], [root.2.1] ++ [(maS ts root.2.2.2.2.1 addr root.2.2.2.2.2.1 root.2.1).2.1] ++ [(maS ts root.2.2.2.2.1 addr (IntKind.i64.wrap (root.2.2.2.2.2.1 - 1)) (maS ts root.2.2.2.2.1 addr root.2.2.2.2.2.1 root.2.1).2.1).2.1]), 0) else ((root.2.1, addr.fdiv (2 ^ min (Int.toNat 12) IntKind.i64.bits), (maS ts root.2.2.2.2.1 addr (IntKind.i64.wrap (root.2.2.2.2.2.1 - 1)) (maS ts root.2.2.2.2.1 addr root.2.2.2.2.2.1 root.2.1).2.1).2.1, (maS ts root.2.2.2.2.1 addr (IntKind.i64.wrap (root.2.2.2.2.2.1 - 1)) (maS ts root.2.2.2.2.1 addr root.2.2.2.2.2.1 root.2.1).2.1).2.2.1, [(maS ts root.2.2.2.2.1 addr root.2.2.2.2.2.1 root.2.1).2.2.2] ++ [(maS ts root.2.2.2.2.1 addr (IntKind.i64.wrap (root.2.2.2.2.2.1 - 1)) (maS ts root.2.2.2.2.1 addr root.2.2.2.2.2.1 root.2.1).2.1).2.2.2], [root.2.1] ++ [(maS ts root.2.2.2.2.1 addr root.2.2.2.2.2.1 root.2.1).2.1]), 0) else ((root.2.1, addr.fdiv (2 ^ min (Int.toNat 12) IntKind.i64.bits), (maS ts root.2.2.2.2.1 addr root.2.2.2.2.2.1 root.2.1).2.1, (maS ts root.2.2.2.2.1 addr root.2.2.2.2.2.1 root.2.1).2.2.1, [(maS ts root.2.2.2.2.1 addr root.2.2.2.2.2.1 root.2.1).2.2.2], [root.2.1]), 0) else ((root.2.1, addr.fdiv (2 ^ min (Int.toNat 12) IntKind.i64.bits), 0, 0, [], []), 0)
noncomputable def P_wlk : ((List (SPT)) × SCp × Int) → Bool
  | (ts, root, addr) => okM ts && bif !tabsB ts then true else bif !vcapB root then true else bif root.1 != 3 then true else bif root.2.2.2.2.2.1 != IntKind.i64.wrap ((geoS root.2.2.2.2.1).1 - 1) then true else bif !vaS (root.2.2.2.2.1, addr) then true else bif decide (root.2.2.2.2.2.1 ≥ 0) then len40n ts && bif !decide (ftS ts root.2.1 ≥ 0) then true else decide (0 ≤ ftS ts root.2.1) && decide (ftS ts root.2.1 < (↑ts.length : Int)) && bif (taS ts root.2.1).2.1 != root.2.2.2.2.1 then true else decide (0 ≤ ftS ts root.2.1) && decide (ftS ts root.2.1 < (↑ts.length : Int)) && bif (taS ts root.2.1).2.2.1 != root.2.2.2.2.2.1 then true else decide (0 ≤ ftS ts root.2.1) && decide (ftS ts root.2.1 < (↑ts.length : Int)) && (len40n (taS ts root.2.1).2.2.2 && bif !decide (faS ts root.2.2.2.2.1 addr root.2.2.2.2.2.1 root.2.1 ≥ 0) then true else decide (0 ≤ ftS ts root.2.1) && decide (ftS ts root.2.1 < (↑ts.length : Int)) && (decide (0 ≤ faS ts root.2.2.2.2.1 addr root.2.2.2.2.2.1 root.2.1) && decide (faS ts root.2.2.2.2.1 addr root.2.2.2.2.2.1 root.2.1 < (↑(List.length (taS ts root.2.1).2.2.2) : Int)) && bif decide (IntKind.i64.wrap (root.2.2.2.2.2.1 - 1) ≥ 0) then len40n ts && bif !decide (ftS ts (maS ts root.2.2.2.2.1 addr root.2.2.2.2.2.1 root.2.1).2.1 ≥ 0) then true else decide (0 ≤ ftS ts (maS ts root.2.2.2.2.1 addr root.2.2.2.2.2.1 root.2.1).2.1) && decide (ftS ts (maS ts root.2.2.2.2.1 addr root.2.2.2.2.2.1 root.2.1).2.1 < (↑ts.length : Int)) && bif (taS ts (maS ts root.2.2.2.2.1 addr root.2.2.2.2.2.1 root.2.1).2.1).2.1 != root.2.2.2.2.1 then true else decide (0 ≤ ftS ts (maS ts root.2.2.2.2.1 addr root.2.2.2.2.2.1 root.2.1).2.1) && decide (ftS ts (maS ts root.2.2.2.2.1 addr root.2.2.2.2.2.1 root.2.1).2.1 < (↑ts.length : Int)) && bif (taS ts (maS ts root.2.2.2.2.1 addr root.2.2.2.2.2.1 root.2.1).2.1).2.2.1 != IntKind.i64.wrap (root.2.2.2.2.2.1 - 1) then true else decide (0 ≤ ftS ts (maS ts root.2.2.2.2.1 addr root.2.2.2.2.2.1 root.2.1).2.1) && decide (ftS ts (maS ts root.2.2.2.2.1 addr root.2.2.2.2.2.1 root.2.1).2.1 < (↑ts.length : Int)) && (len40n (taS ts (maS ts root.2.2.2.2.1 addr root.2.2.2.2.2.1 root.2.1).2.1).2.2.2 && bif !decide (faS ts root.2.2.2.2.1 addr (IntKind.i64.wrap (root.2.2.2.2.2.1 - 1)) (maS ts root.2.2.2.2.1 addr root.2.2.2.2.2.1 root.2.1).2.1 ≥ 0) then true else decide (0 ≤ ftS ts (maS ts root.2.2.2.2.1 addr root.2.2.2.2.2.1 root.2.1).2.1) && decide (ftS ts (maS ts root.2.2.2.2.1 addr root.2.2.2.2.2.1 root.2.1).2.1 < (↑ts.length : Int)) && (decide (0 ≤ faS ts root.2.2.2.2.1 addr (IntKind.i64.wrap (root.2.2.2.2.2.1 - 1)) (maS ts root.2.2.2.2.1 addr root.2.2.2.2.2.1 root.2.1).2.1) && decide (faS ts root.2.2.2.2.1 addr (IntKind.i64.wrap (root.2.2.2.2.2.1 - 1)) (maS ts root.2.2.2.2.1 addr root.2.2.2.2.2.1 root.2.1).2.1 < (↑(List.length (taS ts (maS ts root.2.2.2.2.1 addr root.2.2.2.2.2.1 root.2.1).2.1).2.2.2) : Int)) && bif decide (IntKind.i64.wrap (IntKind.i64.wrap (root.2.2.2.2.2.1 - 1) - 1) ≥ 0) then len40n ts && bif !decide (ftS ts (maS ts root.2.2.2.2.1 addr (IntKind.i64.wrap (root.2.2.2.2.2.1 - 1)) (maS ts root.2.2.2.2.1 addr root.2.2.2.2.2.1 root.2.1).2.1).2.1 ≥ 0) then true else decide (0 ≤ ftS ts (maS ts root.2.2.2.2.1 addr (IntKind.i64.wrap (root.2.2.2.2.2.1 - 1)) (maS ts root.2.2.2.2.1 addr root.2.2.2.2.2.1 root.2.1).2.1).2.1) && decide (ftS ts (maS ts root.2.2.2.2.1 addr (IntKind.i64.wrap (root.2.2.2.2.2.1 - 1)) (maS ts root.2.2.2.2.1 addr root.2.2.2.2.2.1 root.2.1).2.1).2.1 < (↑ts.length : Int)) && bif (taS ts (maS ts root.2.2.2.2.1 addr (IntKind.i64.wrap (root.2.2.2.2.2.1 - 1)) (maS ts root.2.2.2.2.1 addr root.2.2.2.2.2.1 root.2.1).2.1).2.1).2.1 != root.2.2.2.2.1 then true else decide (0 ≤ ftS ts (maS ts root.2.2.2.2.1 addr (IntKind.i64.wrap (root.2.2.2.2.2.1 - 1)) (maS ts root.2.2.2.2.1 addr root.2.2.2.2.2.1 root.2.1).2.1).2.1) && decide (ftS ts (maS ts root.2.2.2.2.1 addr (IntKind.i64.wrap (root.2.2.2.2.2.1 - 1)) (maS ts root.2.2.2.2.1 addr root.2.2.2.2.2.1 root.2.1).2.1).2.1 < (↑ts.length : Int)) && bif (taS ts (maS ts root.2.2.2.2.1 addr (IntKind.i64.wrap (root.2.2.2.2.2.1 - 1)) (maS ts root.2.2.2.2.1 addr root.2.2.2.2.2.1 root.2.1).2.1).2.1).2.2.1 != IntKind.i64.wrap (IntKind.i64.wrap (root.2.2.2.2.2.1 - 1) - 1) then true else decide (0 ≤ ftS ts (maS ts root.2.2.2.2.1 addr (IntKind.i64.wrap (root.2.2.2.2.2.1 - 1)) (maS ts root.2.2.2.2.1 addr root.2.2.2.2.2.1 root.2.1).2.1).2.1) && decide (ftS ts (maS ts root.2.2.2.2.1 addr (IntKind.i64.wrap (root.2.2.2.2.2.1 - 1)) (maS ts root.2.2.2.2.1 addr root.2.2.2.2.2.1 root.2.1).2.1).2.1 < (↑ts.length : Int)) && (len40n (taS ts (maS ts root.2.2.2.2.1 addr (IntKind.i64.wrap (root.2.2.2.2.2.1 - 1)) (maS ts root.2.2.2.2.1 addr root.2.2.2.2.2.1 root.2.1).2.1).2.1).2.2.2 && bif !decide (faS ts root.2.2.2.2.1 addr (IntKind.i64.wrap (IntKind.i64.wrap (root.2.2.2.2.2.1 - 1) - 1)) (maS ts root.2.2.2.2.1 addr (IntKind.i64.wrap (root.2.2.2.2.2.1 - 1)) (maS ts root.2.2.2.2.1 addr root.2.2.2.2.2.1 root.2.1).2.1).2.1 ≥ 0) then true else decide (0 ≤ ftS ts (maS ts root.2.2.2.2.1 addr (IntKind.i64.wrap (root.2.2.2.2.2.1 - 1)) (maS ts root.2.2.2.2.1 addr root.2.2.2.2.2.1 root.2.1).2.1).2.1) && decide (ftS ts (maS ts root.2.2.2.2.1 addr (IntKind.i64.wrap (root.2.2.2.2.2.1 - 1)) (maS ts root.2.2.2.2.1 addr root.2.2.2.2.2.1 root.2.1).2.1).2.1 < (↑ts.length : Int)) && (decide (0 ≤ faS ts root.2.2.2.2.1 addr (IntKind.i64.wrap (IntKind.i64.wrap (root.2.2.2.2.2.1 - 1) - 1)) (maS ts root.2.2.2.2.1 addr (IntKind.i64.wrap (root.2.2.2.2.2.1 - 1)) (maS ts root.2.2.2.2.1 addr root.2.2.2.2.2.1 root.2.1).2.1).2.1) && decide (faS ts root.2.2.2.2.1 addr (IntKind.i64.wrap (IntKind.i64.wrap (root.2.2.2.2.2.1 - 1) - 1)) (maS ts root.2.2.2.2.1 addr (IntKind.i64.wrap (root.2.2.2.2.2.1 - 1)) (maS ts root.2.2.2.2.1 addr root.2.2.2.2.2.1 root.2.1).2.1).2.1 < (↑(List.length (taS ts (maS ts root.2.2.2.2.1 addr (IntKind.i64.wrap (root.2.2.2.2.2.1 - 1)) (maS ts root.2.2.2.2.1 addr root.2.2.2.2.2.1 root.2.1).2.1).2.1).2.2.2) : Int)) && bif decide (IntKind.i64.wrap (IntKind.i64.wrap (IntKind.i64.wrap (root.2.2.2.2.2.1 - 1) - 1) - 1) ≥ 0) then len40n ts && bif !decide (ftS ts (maS ts root.2.2.2.2.1 addr (IntKind.i64.wrap (IntKind.i64.wrap (root.2.2.2.2.2.1 - 1) - 1)) (maS ts root.2.2.2.2.1 addr (IntKind.i64.wrap (root.2.2.2.2.2.1 - 1)) (maS ts root.2.2.2.2.1 addr root.2.2.2.2.2.1 root.2.1).2.1).2.1).2.1 ≥ 0) then true else decide (0 ≤ ftS ts (maS ts root.2.2.2.2.1 addr (IntKind.i64.wrap (IntKind.i64.wrap (root.2.2.2.2.2.1 - 1) - 1)) (maS ts root.2.2.2.2.1 addr (IntKind.i64.wrap (root.2.2.2.2.2.1 - 1)) (maS ts root.2.2.2.2.1 addr root.2.2.2.2.2.1 root.2.1).2.1).2.1).2.1) && decide (ftS ts (maS ts root.2.2.2.2.1 addr (IntKind.i64.wrap (IntKind.i64.wrap (root.2.2.2.2.2.1 - 1) - 1)) (maS ts root.2.2.2.2.1 addr (IntKind.i64.wrap (root.2.2.2.2.2.1 - 1)) (maS ts root.2.2.2.2.1 addr root.2.2.2.2.2.1 root.2.1).2.1).2.1).2.1 < (↑ts.length : Int)) && bif (taS ts (maS ts root.2.2.2.2.1 addr (IntKind.i64.wrap (IntKind.i64.wrap (root.2.2.2.2.2.1 - 1) - 1)) (maS ts root.2.2.2.2.1 addr (IntKind.i64.wrap (root.2.2.2.2.2.1 - 1)) (maS ts root.2.2.2.2.1 addr root.2.2.2.2.2.1 root.2.1).2.1).2.1).2.1).2.1 != root.2.2.2.2.1 then true else decide (0 ≤ ftS ts (maS ts root.2.2.2.2.1 addr (IntKind.i64.wrap (IntKind.i64.wrap (root.2.2.2.2.2.1 - 1) - 1)) (maS ts root.2.2.2.2.1 addr (IntKind.i64.wrap (root.2.2.2.2.2.1 - 1)) (maS ts root.2.2.2.2.1 addr root.2.2.2.2.2.1 root.2.1).2.1).2.1).2.1) && decide (ftS ts (maS ts root.2.2.2.2.1 addr (IntKind.i64.wrap (IntKind.i64.wrap (root.2.2.2.2.2.1 - 1) - 1)) (maS ts root.2.2.2.2.1 addr (IntKind.i64.wrap (root.2.2.2.2.2.1 - 1)) (maS ts root.2.2.2.2.1 addr root.2.2.2.2.2.1 root.2.1).2.1).2.1).2.1 < (↑ts.length : Int)) && bif (taS ts (maS ts root.2.2.2.2.1 addr (IntKind.i64.wrap (IntKind.i64.wrap (root.2.2.2.2.2.1 - 1) - 1)) (maS ts root.2.2.2.2.1 addr (IntKind.i64.wrap (root.2.2.2.2.2.1 - 1)) (maS ts root.2.2.2.2.1 addr root.2.2.2.2.2.1 root.2.1).2.1).2.1).2.1).2.2.1 != IntKind.i64.wrap (IntKind.i64.wrap (IntKind.i64.wrap (root.2.2.2.2.2.1 - 1) - 1) - 1) then true else decide (0 ≤ ftS ts (maS ts root.2.2.2.2.1 addr (IntKind.i64.wrap (IntKind.i64.wrap (root.2.2.2.2.2.1 - 1) - 1)) (maS ts root.2.2.2.2.1 addr (IntKind.i64.wrap (root.2.2.2.2.2.1 - 1)) (maS ts root.2.2.2.2.1 addr root.2.2.2.2.2.1 root.2.1).2.1).2.1).2.1) && decide (ftS ts (maS ts root.2.2.2.2.1 addr (IntKind.i64.wrap (IntKind.i64.wrap (root.2.2.2.2.2.1 - 1) - 1)) (maS ts root.2.2.2.2.1 addr (IntKind.i64.wrap (root.2.2.2.2.2.1 - 1)) (maS ts root.2.2.2.2.1 addr root.2.2.2.2.2.1 root.2.1).2.1).2.1).2.1 < (↑ts.length : Int)) && (len40n (taS ts (maS ts root.2.2.2.2.1 addr (IntKind.i64.wrap (IntKind.i64.wrap (root.2.2.2.2.2.1 - 1) - 1)) (maS ts root.2.2.2.2.1 addr (IntKind.i64.wrap (root.2.2.2.2.2.1 - 1)) (maS ts root.2.2.2.2.1 addr root.2.2.2.2.2.1 root.2.1).2.1).2.1).2.1).2.2.2 && !decide (faS ts root.2.2.2.2.1 addr (IntKind.i64.wrap (IntKind.i64.wrap (IntKind.i64.wrap (root.2.2.2.2.2.1 - 1) - 1) - 1)) (maS ts root.2.2.2.2.1 addr (IntKind.i64.wrap (IntKind.i64.wrap (root.2.2.2.2.2.1 - 1) - 1)) (maS ts root.2.2.2.2.1 addr (IntKind.i64.wrap (root.2.2.2.2.2.1 - 1)) (maS ts root.2.2.2.2.1 addr root.2.2.2.2.2.1 root.2.1).2.1).2.1).2.1 ≥ 0)) else true)) else true)) else true)) else true
theorem wlk_auto : ∀ a : (List (SPT)) × SCp × Int, Rns (fun f => M_wlk f a) (P_wlk a) (F_wlk a)
  | (ts, root, addr) => ev_step (fun f => M_wlk_eq f _ _ _) (evx_chk (ev_bif ev_some (ev_bif ev_some (ev_bif ev_some (ev_bif ev_some (ev_bif ev_some (ev_bif (evx_chk (ev_bif ev_some (evx_chk (ev_bif ev_some (evx_chk (ev_bif ev_some (evx_chk (evx_chk (ev_bif ev_some (evx_chk (evx_chk (ev_bif (evx_chk (ev_bif ev_some (evx_chk (ev_bif ev_some (evx_chk (ev_bif ev_some (evx_chk (evx_chk (ev_bif ev_some (evx_chk (evx_chk (ev_bif (evx_chk (ev_bif ev_some (evx_chk (ev_bif ev_some (evx_chk (ev_bif ev_some (evx_chk (evx_chk (ev_bif ev_some (evx_chk (evx_chk (ev_bif (evx_chk (ev_bif ev_some (evx_chk (ev_bif ev_some (evx_chk (ev_bif ev_some (evx_chk (evx_chk (evx_chk1 ev_some))))))))) ev_some)))))))))))) ev_some)))))))))))) ev_some)))))))))))) ev_some)))))))
noncomputable def F_rwlk : ((List (SPT)) × SCp × Int) → STr × Int
  | (ts, root, addr) => bif !tabsB ts then ((0, 0, 0, 0, [], []), 1) else bif !vcapB root then ((0, 0, 0, 0, [], []), 5) else bif root.1 != 3 then ((0, 0, 0, 0, [], []), 5) else bif root.2.2.2.2.2.1 != IntKind.i64.wrap ((geoS root.2.2.2.2.1).1 - 1) then ((0, 0, 0, 0, [], []), 5) else bif !vaS (root.2.2.2.2.1, addr) then ((0, 0, 0, 0, [], []), 6) else bif decide (root.2.2.2.2.2.1 ≥ 0) then bif decide (ftS ts root.2.1 < 0) then ((0, 0, 0, 0, [], []), 13) else bif (taS ts root.2.1).2.1 != root.2.2.2.2.1 then ((0, 0, 0, 0, [], []), 13) else bif (taS ts root.2.1).2.2.1 != root.2.2.2.2.2.1 then ((0, 0, 0, 0, [], []), 13) else bif decide (faS ts root.2.2.2.2.1 addr root.2.2.2.2.2.1 root.2.1 < 0) then ((0, 0, 0, 0, [], []), 13) else bif decide (IntKind.i64.wrap (root.2.2.2.2.2.1 - 1) ≥ 0) then bif decide (ftS ts (maS ts root.2.2.2.2.1 addr root.2.2.2.2.2.1 root.2.1).2.1 < 0) then ((0, 0, 0, 0, [], []), 13) else bif (taS ts (maS ts root.2.2.2.2.1 addr root.2.2.2.2.2.1 root.2.1).2.1).2.1 != root.2.2.2.2.1 then ((0, 0, 0, 0, [], []), 13) else bif (taS ts (maS ts root.2.2.2.2.1 addr root.2.2.2.2.2.1 root.2.1).2.1).2.2.1 != IntKind.i64.wrap (root.2.2.2.2.2.1 - 1) then ((0, 0, 0, 0, [], []), 13) else bif decide (faS ts root.2.2.2.2.1 addr (IntKind.i64.wrap (root.2.2.2.2.2.1 - 1)) (maS ts root.2.2.2.2.1 addr root.2.2.2.2.2.1 root.2.1).2.1 < 0) then ((0, 0, 0, 0, [], []), 13) else bif decide (IntKind.i64.wrap (IntKind.i64.wrap (root.2.2.2.2.2.1 - 1) - 1) ≥ 0) then bif decide (ftS ts (maS ts root.2.2.2.2.1 addr (IntKind.i64.wrap (root.2.2.2.2.2.1 - 1)) (maS ts root.2.2.2.2.1 addr root.2.2.2.2.2.1 root.2.1).2.1).2.1 < 0) then ((0, 0, 0, 0, [], []), 13) else bif (taS ts (maS ts root.2.2.2.2.1 addr (IntKind.i64.wrap (root.2.2.2.2.2.1 - 1)) (maS ts root.2.2.2.2.1 addr root.2.2.2.2.2.1 root.2.1).2.1).2.1).2.1 != root.2.2.2.2.1 then ((0, 0, 0, 0, [], []), 13) else bif (taS ts (maS ts root.2.2.2.2.1 addr (IntKind.i64.wrap (root.2.2.2.2.2.1 - 1)) (maS ts root.2.2.2.2.1 addr root.2.2.2.2.2.1 root.2.1).2.1).2.1).2.2.1 != IntKind.i64.wrap (IntKind.i64.wrap (root.2.2.2.2.2.1 - 1) - 1) then ((0, 0, 0, 0, [], []), 13) else bif decide (faS ts root.2.2.2.2.1 addr (IntKind.i64.wrap (IntKind.i64.wrap (root.2.2.2.2.2.1 - 1) - 1)) (maS ts root.2.2.2.2.1 addr (IntKind.i64.wrap (root.2.2.2.2.2.1 - 1)) (maS ts root.2.2.2.2.1 addr root.2.2.2.2.2.1 root.2.1).2.1).2.1 < 0) then ((0, 0, 0, 0, [], []), 13) else bif decide (IntKind.i64.wrap (IntKind.i64.wrap (IntKind.i64.wrap (root.2.2.2.2.2.1 - 1) - 1) - 1) ≥ 0) then bif decide (ftS ts (maS ts root.2.2.2.2.1 addr (IntKind.i64.wrap (IntKind.i64.wrap (root.2.2.2.2.2.1 - 1) - 1)) (maS ts root.2.2.2.2.1 addr (IntKind.i64.wrap (root.2.2.2.2.2.1 - 1)) (maS ts root.2.2.2.2.1 addr root.2.2.2.2.2.1 root.2.1).2.1).2.1).2.1 < 0) then ((0, 0, 0, 0, [], []), 13) else bif (taS ts (maS ts root.2.2.2.2.1 addr (IntKind.i64.wrap (IntKind.i64.wrap (root.2.2.2.2.2.1 - 1) - 1)) (maS ts root.2.2.2.2.1 addr (IntKind.i64.wrap (root.2.2.2.2.2.1 - 1)) (maS ts root.2.2.2.2.1 addr root.2.2.2.2.2.1 root.2.1).2.1).2.1).2.1).2.1 != root.2.2.2.2.1 then ((0, 0, 0, 0, [], []), 13) else bif (taS ts (maS ts root.2.2.2.2.1 addr (IntKind.i64.wrap (IntKind.i64.wrap (root.2.2.2.2.2.1 - 1) - 1)) (maS ts root.2.2.2.2.1 addr (IntKind.i64.wrap (root.2.2.2.2.2.1 - 1)) (maS ts root.2.2.2.2.1 addr root.2.2.2.2.2.1 root.2.1).2.1).2.1).2.1).2.2.1 != IntKind.i64.wrap (IntKind.i64.wrap (IntKind.i64.wrap (root.2.2.2.2.2.1 - 1) - 1) - 1) then ((0, 0, 0, 0, [], []), 13) else ((0, 0, 0, 0, [], []), 13) else ((root.2.1, IntKind.i64.wrap (addr.tdiv 4096), (maS ts root.2.2.2.2.1 addr (IntKind.i64.wrap (IntKind.i64.wrap (root.2.2.2.2.2.1 - 1) - 1)) (maS ts root.2.2.2.2.1 addr (IntKind.i64.wrap (root.2.2.2.2.2.1 - 1)) (maS ts root.2.2.2.2.1 addr root.2.2.2.2.2.1 root.2.1).2.1).2.1).2.1, (maS ts root.2.2.2.2.1 addr (IntKind.i64.wrap (IntKind.i64.wrap (root.2.2.2.2.2.1 - 1) - 1)) (maS ts root.2.2.2.2.1 addr (IntKind.i64.wrap (root.2.2.2.2.2.1 - 1)) (maS ts root.2.2.2.2.1 addr root.2.2.2.2.2.1 root.2.1).2.1).2.1).2.2.1, [] ++ [(maS ts root.2.2.2.2.1 addr root.2.2.2.2.2.1 root.2.1).2.2.2] ++ [(maS ts root.2.2.2.2.1 addr (IntKind.i64.wrap (root.2.2.2.2.2.1 - 1)) (maS ts root.2.2.2.2.1 addr root.2.2.2.2.2.1 root.2.1).2.1).2.2.2] ++ [(maS ts root.2.2.2.2.1 addr (IntKind.i64.wrap (IntKind.i64.wrap (root.2.2.2.2.2.1 - 1) - 1)) (maS ts root.2.2.2.2.1 addr (IntKind.i64.wrap (root.2.2.2.2.2.1 - 1)) (maS ts root.2.2.2.2.1 addr root.2.2.2.2.2.1 root.2.1).2.1).2.1).2.2.2], [] ++ [root.2.1] ++ [(maS ts root.2.2.2.2.1 addr root.2.2.2.2.2.1 root.2.1).2.1] ++ [(maS ts root.2.2.2.2.1 addr (IntKind.i64.wrap (root.2.2.2.2.2.1 - 1)) (maS ts root.2.2.2.2.1 addr root.2.2.2.2.2.1 root.2.1).2.1).2.1]), 0) else ((root.2.1, IntKind.i64.wrap (addr.tdiv 4096), (maS ts root.2.2.2.2.1 addr (IntKind.i64.wrap (root.2.2.2.2.2.1 - 1)) (maS ts root.2.2.2.2.1 addr root.2.2.2.2.2.1 root.2.1).2.1).2.1, (maS ts root.2.2.2.2.1 addr (IntKind.i64.wrap (root.2.2.2.2.2.1 - 1)) (maS ts root.2.2.2.2.1 addr root.2.2.2.2.2.1 root.2.1).2.1).2.2.1, [] ++ [(maS ts root.2.2.2.2.1 addr root.2.2.2.2.2.1 root.2.1).2.2.2] ++ [(maS ts root.2.2.2.2.1 addr (IntKind.i64.wrap (root.2.2.2.2.2.1 - 1)) (maS ts root.2.2.2.2.1 addr root.2.2.2.2.2.1 root.2.1).2.1).2.2.2], [] ++ [root.2.1] ++ [(maS ts root.2.2.2.2.1 addr root.2.2.2.2.2.1 root.2.1).2.1]), 0) else ((root.2.1, IntKind.i64.wrap (addr.tdiv 4096), (maS ts root.2.2.2.2.1 addr root.2.2.2.2.2.1 root.2.1).2.1, (maS ts root.2.2.2.2.1 addr root.2.2.2.2.2.1 root.2.1).2.2.1, [] ++ [(maS ts root.2.2.2.2.1 addr root.2.2.2.2.2.1 root.2.1).2.2.2], [] ++ [root.2.1]), 0) else ((root.2.1, IntKind.i64.wrap (addr.tdiv 4096), 0, 0, [], []), 0)
noncomputable def P_rwlk : ((List (SPT)) × SCp × Int) → Bool
  | (ts, root, addr) => okM ts && bif !tabsB ts then true else bif !vcapB root then true else bif root.1 != 3 then true else bif root.2.2.2.2.2.1 != IntKind.i64.wrap ((geoS root.2.2.2.2.1).1 - 1) then true else bif !vaS (root.2.2.2.2.1, addr) then true else bif decide (root.2.2.2.2.2.1 ≥ 0) then len40n ts && bif decide (ftS ts root.2.1 < 0) then true else decide (0 ≤ ftS ts root.2.1) && decide (ftS ts root.2.1 < (↑ts.length : Int)) && bif (taS ts root.2.1).2.1 != root.2.2.2.2.1 then true else decide (0 ≤ ftS ts root.2.1) && decide (ftS ts root.2.1 < (↑ts.length : Int)) && bif (taS ts root.2.1).2.2.1 != root.2.2.2.2.2.1 then true else decide (0 ≤ ftS ts root.2.1) && decide (ftS ts root.2.1 < (↑ts.length : Int)) && (len40n (taS ts root.2.1).2.2.2 && bif decide (faS ts root.2.2.2.2.1 addr root.2.2.2.2.2.1 root.2.1 < 0) then true else decide (0 ≤ ftS ts root.2.1) && decide (ftS ts root.2.1 < (↑ts.length : Int)) && (decide (0 ≤ faS ts root.2.2.2.2.1 addr root.2.2.2.2.2.1 root.2.1) && decide (faS ts root.2.2.2.2.1 addr root.2.2.2.2.2.1 root.2.1 < (↑(List.length (taS ts root.2.1).2.2.2) : Int)) && bif decide (IntKind.i64.wrap (root.2.2.2.2.2.1 - 1) ≥ 0) then len40n ts && bif decide (ftS ts (maS ts root.2.2.2.2.1 addr root.2.2.2.2.2.1 root.2.1).2.1 < 0) then true else decide (0 ≤ ftS ts (maS ts root.2.2.2.2.1 addr root.2.2.2.2.2.1 root.2.1).2.1) && decide (ftS ts (maS ts root.2.2.2.2.1 addr root.2.2.2.2.2.1 root.2.1).2.1 < (↑ts.length : Int)) && bif (taS ts (maS ts root.2.2.2.2.1 addr root.2.2.2.2.2.1 root.2.1).2.1).2.1 != root.2.2.2.2.1 then true else decide (0 ≤ ftS ts (maS ts root.2.2.2.2.1 addr root.2.2.2.2.2.1 root.2.1).2.1) && decide (ftS ts (maS ts root.2.2.2.2.1 addr root.2.2.2.2.2.1 root.2.1).2.1 < (↑ts.length : Int)) && bif (taS ts (maS ts root.2.2.2.2.1 addr root.2.2.2.2.2.1 root.2.1).2.1).2.2.1 != IntKind.i64.wrap (root.2.2.2.2.2.1 - 1) then true else decide (0 ≤ ftS ts (maS ts root.2.2.2.2.1 addr root.2.2.2.2.2.1 root.2.1).2.1) && decide (ftS ts (maS ts root.2.2.2.2.1 addr root.2.2.2.2.2.1 root.2.1).2.1 < (↑ts.length : Int)) && (len40n (taS ts (maS ts root.2.2.2.2.1 addr root.2.2.2.2.2.1 root.2.1).2.1).2.2.2 && bif decide (faS ts root.2.2.2.2.1 addr (IntKind.i64.wrap (root.2.2.2.2.2.1 - 1)) (maS ts root.2.2.2.2.1 addr root.2.2.2.2.2.1 root.2.1).2.1 < 0) then true else decide (0 ≤ ftS ts (maS ts root.2.2.2.2.1 addr root.2.2.2.2.2.1 root.2.1).2.1) && decide (ftS ts (maS ts root.2.2.2.2.1 addr root.2.2.2.2.2.1 root.2.1).2.1 < (↑ts.length : Int)) && (decide (0 ≤ faS ts root.2.2.2.2.1 addr (IntKind.i64.wrap (root.2.2.2.2.2.1 - 1)) (maS ts root.2.2.2.2.1 addr root.2.2.2.2.2.1 root.2.1).2.1) && decide (faS ts root.2.2.2.2.1 addr (IntKind.i64.wrap (root.2.2.2.2.2.1 - 1)) (maS ts root.2.2.2.2.1 addr root.2.2.2.2.2.1 root.2.1).2.1 < (↑(List.length (taS ts (maS ts root.2.2.2.2.1 addr root.2.2.2.2.2.1 root.2.1).2.1).2.2.2) : Int)) && bif decide (IntKind.i64.wrap (IntKind.i64.wrap (root.2.2.2.2.2.1 - 1) - 1) ≥ 0) then len40n ts && bif decide (ftS ts (maS ts root.2.2.2.2.1 addr (IntKind.i64.wrap (root.2.2.2.2.2.1 - 1)) (maS ts root.2.2.2.2.1 addr root.2.2.2.2.2.1 root.2.1).2.1).2.1 < 0) then true else decide (0 ≤ ftS ts (maS ts root.2.2.2.2.1 addr (IntKind.i64.wrap (root.2.2.2.2.2.1 - 1)) (maS ts root.2.2.2.2.1 addr root.2.2.2.2.2.1 root.2.1).2.1).2.1) && decide (ftS ts (maS ts root.2.2.2.2.1 addr (IntKind.i64.wrap (root.2.2.2.2.2.1 - 1)) (maS ts root.2.2.2.2.1 addr root.2.2.2.2.2.1 root.2.1).2.1).2.1 < (↑ts.length : Int)) && bif (taS ts (maS ts root.2.2.2.2.1 addr (IntKind.i64.wrap (root.2.2.2.2.2.1 - 1)) (maS ts root.2.2.2.2.1 addr root.2.2.2.2.2.1 root.2.1).2.1).2.1).2.1 != root.2.2.2.2.1 then true else decide (0 ≤ ftS ts (maS ts root.2.2.2.2.1 addr (IntKind.i64.wrap (root.2.2.2.2.2.1 - 1)) (maS ts root.2.2.2.2.1 addr root.2.2.2.2.2.1 root.2.1).2.1).2.1) && decide (ftS ts (maS ts root.2.2.2.2.1 addr (IntKind.i64.wrap (root.2.2.2.2.2.1 - 1)) (maS ts root.2.2.2.2.1 addr root.2.2.2.2.2.1 root.2.1).2.1).2.1 < (↑ts.length : Int)) && bif (taS ts (maS ts root.2.2.2.2.1 addr (IntKind.i64.wrap (root.2.2.2.2.2.1 - 1)) (maS ts root.2.2.2.2.1 addr root.2.2.2.2.2.1 root.2.1).2.1).2.1).2.2.1 != IntKind.i64.wrap (IntKind.i64.wrap (root.2.2.2.2.2.1 - 1) - 1) then true else decide (0 ≤ ftS ts (maS ts root.2.2.2.2.1 addr (IntKind.i64.wrap (root.2.2.2.2.2.1 - 1)) (maS ts root.2.2.2.2.1 addr root.2.2.2.2.2.1 root.2.1).2.1).2.1) && decide (ftS ts (maS ts root.2.2.2.2.1 addr (IntKind.i64.wrap (root.2.2.2.2.2.1 - 1)) (maS ts root.2.2.2.2.1 addr root.2.2.2.2.2.1 root.2.1).2.1).2.1 < (↑ts.length : Int)) && (len40n (taS ts (maS ts root.2.2.2.2.1 addr (IntKind.i64.wrap (root.2.2.2.2.2.1 - 1)) (maS ts root.2.2.2.2.1 addr root.2.2.2.2.2.1 root.2.1).2.1).2.1).2.2.2 && bif decide (faS ts root.2.2.2.2.1 addr (IntKind.i64.wrap (IntKind.i64.wrap (root.2.2.2.2.2.1 - 1) - 1)) (maS ts root.2.2.2.2.1 addr (IntKind.i64.wrap (root.2.2.2.2.2.1 - 1)) (maS ts root.2.2.2.2.1 addr root.2.2.2.2.2.1 root.2.1).2.1).2.1 < 0) then true else decide (0 ≤ ftS ts (maS ts root.2.2.2.2.1 addr (IntKind.i64.wrap (root.2.2.2.2.2.1 - 1)) (maS ts root.2.2.2.2.1 addr root.2.2.2.2.2.1 root.2.1).2.1).2.1) && decide (ftS ts (maS ts root.2.2.2.2.1 addr (IntKind.i64.wrap (root.2.2.2.2.2.1 - 1)) (maS ts root.2.2.2.2.1 addr root.2.2.2.2.2.1 root.2.1).2.1).2.1 < (↑ts.length : Int)) && (decide (0 ≤ faS ts root.2.2.2.2.1 addr (IntKind.i64.wrap (IntKind.i64.wrap (root.2.2.2.2.2.1 - 1) - 1)) (maS ts root.2.2.2.2.1 addr (IntKind.i64.wrap (root.2.2.2.2.2.1 - 1)) (maS ts root.2.2.2.2.1 addr root.2.2.2.2.2.1 root.2.1).2.1).2.1) && decide (faS ts root.2.2.2.2.1 addr (IntKind.i64.wrap (IntKind.i64.wrap (root.2.2.2.2.2.1 - 1) - 1)) (maS ts root.2.2.2.2.1 addr (IntKind.i64.wrap (root.2.2.2.2.2.1 - 1)) (maS ts root.2.2.2.2.1 addr root.2.2.2.2.2.1 root.2.1).2.1).2.1 < (↑(List.length (taS ts (maS ts root.2.2.2.2.1 addr (IntKind.i64.wrap (root.2.2.2.2.2.1 - 1)) (maS ts root.2.2.2.2.1 addr root.2.2.2.2.2.1 root.2.1).2.1).2.1).2.2.2) : Int)) && bif decide (IntKind.i64.wrap (IntKind.i64.wrap (IntKind.i64.wrap (root.2.2.2.2.2.1 - 1) - 1) - 1) ≥ 0) then len40n ts && bif decide (ftS ts (maS ts root.2.2.2.2.1 addr (IntKind.i64.wrap (IntKind.i64.wrap (root.2.2.2.2.2.1 - 1) - 1)) (maS ts root.2.2.2.2.1 addr (IntKind.i64.wrap (root.2.2.2.2.2.1 - 1)) (maS ts root.2.2.2.2.1 addr root.2.2.2.2.2.1 root.2.1).2.1).2.1).2.1 < 0) then true else decide (0 ≤ ftS ts (maS ts root.2.2.2.2.1 addr (IntKind.i64.wrap (IntKind.i64.wrap (root.2.2.2.2.2.1 - 1) - 1)) (maS ts root.2.2.2.2.1 addr (IntKind.i64.wrap (root.2.2.2.2.2.1 - 1)) (maS ts root.2.2.2.2.1 addr root.2.2.2.2.2.1 root.2.1).2.1).2.1).2.1) && decide (ftS ts (maS ts root.2.2.2.2.1 addr (IntKind.i64.wrap (IntKind.i64.wrap (root.2.2.2.2.2.1 - 1) - 1)) (maS ts root.2.2.2.2.1 addr (IntKind.i64.wrap (root.2.2.2.2.2.1 - 1)) (maS ts root.2.2.2.2.1 addr root.2.2.2.2.2.1 root.2.1).2.1).2.1).2.1 < (↑ts.length : Int)) && bif (taS ts (maS ts root.2.2.2.2.1 addr (IntKind.i64.wrap (IntKind.i64.wrap (root.2.2.2.2.2.1 - 1) - 1)) (maS ts root.2.2.2.2.1 addr (IntKind.i64.wrap (root.2.2.2.2.2.1 - 1)) (maS ts root.2.2.2.2.1 addr root.2.2.2.2.2.1 root.2.1).2.1).2.1).2.1).2.1 != root.2.2.2.2.1 then true else decide (0 ≤ ftS ts (maS ts root.2.2.2.2.1 addr (IntKind.i64.wrap (IntKind.i64.wrap (root.2.2.2.2.2.1 - 1) - 1)) (maS ts root.2.2.2.2.1 addr (IntKind.i64.wrap (root.2.2.2.2.2.1 - 1)) (maS ts root.2.2.2.2.1 addr root.2.2.2.2.2.1 root.2.1).2.1).2.1).2.1) && decide (ftS ts (maS ts root.2.2.2.2.1 addr (IntKind.i64.wrap (IntKind.i64.wrap (root.2.2.2.2.2.1 - 1) - 1)) (maS ts root.2.2.2.2.1 addr (IntKind.i64.wrap (root.2.2.2.2.2.1 - 1)) (maS ts root.2.2.2.2.1 addr root.2.2.2.2.2.1 root.2.1).2.1).2.1).2.1 < (↑ts.length : Int)) && bif (taS ts (maS ts root.2.2.2.2.1 addr (IntKind.i64.wrap (IntKind.i64.wrap (root.2.2.2.2.2.1 - 1) - 1)) (maS ts root.2.2.2.2.1 addr (IntKind.i64.wrap (root.2.2.2.2.2.1 - 1)) (maS ts root.2.2.2.2.1 addr root.2.2.2.2.2.1 root.2.1).2.1).2.1).2.1).2.2.1 != IntKind.i64.wrap (IntKind.i64.wrap (IntKind.i64.wrap (root.2.2.2.2.2.1 - 1) - 1) - 1) then true else decide (0 ≤ ftS ts (maS ts root.2.2.2.2.1 addr (IntKind.i64.wrap (IntKind.i64.wrap (root.2.2.2.2.2.1 - 1) - 1)) (maS ts root.2.2.2.2.1 addr (IntKind.i64.wrap (root.2.2.2.2.2.1 - 1)) (maS ts root.2.2.2.2.1 addr root.2.2.2.2.2.1 root.2.1).2.1).2.1).2.1) && decide (ftS ts (maS ts root.2.2.2.2.1 addr (IntKind.i64.wrap (IntKind.i64.wrap (root.2.2.2.2.2.1 - 1) - 1)) (maS ts root.2.2.2.2.1 addr (IntKind.i64.wrap (root.2.2.2.2.2.1 - 1)) (maS ts root.2.2.2.2.1 addr root.2.2.2.2.2.1 root.2.1).2.1).2.1).2.1 < (↑ts.length : Int)) && (len40n (taS ts (maS ts root.2.2.2.2.1 addr (IntKind.i64.wrap (IntKind.i64.wrap (root.2.2.2.2.2.1 - 1) - 1)) (maS ts root.2.2.2.2.1 addr (IntKind.i64.wrap (root.2.2.2.2.2.1 - 1)) (maS ts root.2.2.2.2.1 addr root.2.2.2.2.2.1 root.2.1).2.1).2.1).2.1).2.2.2 && decide (faS ts root.2.2.2.2.1 addr (IntKind.i64.wrap (IntKind.i64.wrap (IntKind.i64.wrap (root.2.2.2.2.2.1 - 1) - 1) - 1)) (maS ts root.2.2.2.2.1 addr (IntKind.i64.wrap (IntKind.i64.wrap (root.2.2.2.2.2.1 - 1) - 1)) (maS ts root.2.2.2.2.1 addr (IntKind.i64.wrap (root.2.2.2.2.2.1 - 1)) (maS ts root.2.2.2.2.1 addr root.2.2.2.2.2.1 root.2.1).2.1).2.1).2.1 < 0)) else true)) else true)) else true)) else true
end Go.AL
/-
  Layer 16: Walk: what both compute. By an AI agent.
-/
namespace Go.AL
open Go.Proofs
set_option linter.unusedVariables false
set_option linter.unusedSimpArgs false
def z13 : STr × Int := ((0, 0, 0, 0, [], []), 13)
def wkF (ts : List SPT) (w addr lv b : Int) (k : STr × Int) : STr × Int :=
  bif !decide (ftS ts b ≥ 0) then z13 else bif (taS ts b).2.1 != w then z13 else bif (taS ts b).2.2.1 != lv then z13 else bif !decide (faS ts w addr lv b ≥ 0) then z13 else k
def wkR (ts : List SPT) (w addr lv b : Int) (k : STr × Int) : STr × Int :=
  bif decide (ftS ts b < 0) then z13 else bif (taS ts b).2.1 != w then z13 else bif (taS ts b).2.2.1 != lv then z13 else bif decide (faS ts w addr lv b < 0) then z13 else k
theorem ge_lt0 (x : Int) : (!decide (x ≥ 0)) = decide (x < 0) := by
  by_cases h : x < 0
  · rw [decide_eq_true h, decide_eq_false (by omega)]; rfl
  · rw [decide_eq_false h, decide_eq_true (by omega)]; rfl
theorem wkF_R {ts : List SPT} {w addr lv b : Int} {k : STr × Int} : wkF ts w addr lv b k = wkR ts w addr lv b k := by
  simp only [wkF, wkR, ge_lt0]
def wkP (ts : List SPT) (w addr lv b : Int) (q : Bool) : Bool :=
  len40n ts && bif decide (ftS ts b < 0) then true else decide (0 ≤ ftS ts b) && decide (ftS ts b < (↑ts.length : Int)) && bif (taS ts b).2.1 != w then true else decide (0 ≤ ftS ts b) && decide (ftS ts b < (↑ts.length : Int)) && bif (taS ts b).2.2.1 != lv then true else decide (0 ≤ ftS ts b) && decide (ftS ts b < (↑ts.length : Int)) && (len40n (taS ts b).2.2.2 && bif decide (faS ts w addr lv b < 0) then true else decide (0 ≤ ftS ts b) && decide (ftS ts b < (↑ts.length : Int)) && (decide (0 ≤ faS ts w addr lv b) && decide (faS ts w addr lv b < (↑(List.length (taS ts b).2.2.2) : Int)) && q))
theorem fmS_lt (l : List SMp) (b : Int) : fmS l b < l.length := by have := findI_lt (fun t : SMp => decide (t.1 = b)) l 0 (by omega); unfold fmS; omega
theorem wkP_ok {ts : List SPT} (h : okM ts = true) {w addr lv b : Int} {q : Bool} (hq : q = true) : wkP ts w addr lv b q = true := by
  subst hq
  unfold wkP
  rw [show len40n ts = true from decide_eq_true (okM_len h), Bool.true_and]
  by_cases hf : ftS ts b < 0
  · rw [decide_eq_true hf]; rfl
  · have hr := ft_range hf
    have hm : len40n (taS ts b).2.2.2 = true := okM_mem h (ft_getD hf)
    have hl := fmS_lt (taS ts b).2.2.2 (ixS (w, lv, addr))
    rw [decide_eq_false hf, decide_eq_true hr.1, decide_eq_true hr.2, hm]
    simp only [cond_false, Bool.true_and, Bool.and_true, Bool.and_self]
    cases (taS ts b).2.1 != w
    · cases (taS ts b).2.2.1 != lv
      · simp only [cond_false]
        by_cases hg : faS ts w addr lv b < 0
        · rw [decide_eq_true hg]; rfl
        · rw [decide_eq_false hg, decide_eq_true (show 0 ≤ faS ts w addr lv b by omega), decide_eq_true (show faS ts w addr lv b < ((List.length (taS ts b).2.2.2 : Nat) : Int) from hl)]; rfl
      · rfl
    · rfl
def wkS (ts : List SPT) (w addr : Int) : Nat → Int → Int → STr → STr × Int
  | 0, _, _, out => (out, 0)
  | n + 1, lv, b, out => wkR ts w addr lv b (wkS ts w addr n (lv - 1) (maS ts w addr lv b).2.1 (out.1, out.2.1, (maS ts w addr lv b).2.1, (maS ts w addr lv b).2.2.1, out.2.2.2.2.1 ++ [(maS ts w addr lv b).2.2.2], out.2.2.2.2.2 ++ [b]))
def wlkS (a : List SPT × SCp × Int) : STr × Int :=
  bif !tabsB a.1 then ((0, 0, 0, 0, [], []), 1) else bif !vcapB a.2.1 then ((0, 0, 0, 0, [], []), 5) else bif a.2.1.1 != 3 then ((0, 0, 0, 0, [], []), 5) else
  bif a.2.1.2.2.2.2.2.1 != (geoS a.2.1.2.2.2.2.1).1 - 1 then ((0, 0, 0, 0, [], []), 5) else bif !vaS (a.2.1.2.2.2.2.1, a.2.2) then ((0, 0, 0, 0, [], []), 6) else
  wkS a.1 a.2.1.2.2.2.2.1 a.2.2 (geoS a.2.1.2.2.2.2.1).1.toNat a.2.1.2.2.2.2.2.1 a.2.1.2.1 (a.2.1.2.1, a.2.2 / 4096, 0, 0, [], [])
theorem geo_3 (w : Int) : (geoS w).2.2.2 = true → (geoS w).1 = 2 ∨ (geoS w).1 = 3 := by
  intro h
  rcases geo_w h with rfl | rfl
  · exact .inl rfl
  · exact .inr rfl
theorem va_range {w a : Int} (h : vaS (w, a) = true) : (geoS w).2.2.2 = true ∧ 0 ≤ a ∧ a < 549755813888 := by
  obtain ⟨h1, h2⟩ := Bool.and_eq_true_iff.1 h
  obtain ⟨h2, h3⟩ := Bool.and_eq_true_iff.1 h2
  have h3 := of_decide_eq_true h3
  have h2 := of_decide_eq_true h2
  refine ⟨h1, h2, ?_⟩
  simp only at h3
  cases hd : decide (w = 32) <;> rw [hd] at h3 <;> simp only [cond_true, cond_false] at h3 <;> omega
theorem pg_s (a : Int) : a.fdiv (2 ^ min (Int.toNat 12) IntKind.i64.bits) = a / 4096 := Int.fdiv_eq_ediv_of_nonneg _ (by decide)
theorem pg_t {a : Int} (h : 0 ≤ a) (h2 : a < 549755813888) : IntKind.i64.wrap (a.tdiv 4096) = a / 4096 := by
  rw [Int.tdiv_eq_ediv_of_nonneg h]
  exact i64_id (by omega) (by omega)
theorem geoW (w : Int) : IntKind.i64.wrap ((geoS w).1 - 1) = (geoS w).1 - 1 := by
  unfold geoS
  cases decide (w = 32) <;> cases decide (w = 39) <;> rfl
section
variable (ts : List SPT) (root : SCp) (addr : Int)
theorem F_wlk_eq : F_wlk (ts, root, addr) = bif !tabsB ts then ((0, 0, 0, 0, [], []), 1) else bif !vcapB root then ((0, 0, 0, 0, [], []), 5) else bif root.1 != 3 then ((0, 0, 0, 0, [], []), 5) else bif root.2.2.2.2.2.1 != IntKind.i64.wrap ((geoS root.2.2.2.2.1).1 - 1) then ((0, 0, 0, 0, [], []), 5) else bif !vaS (root.2.2.2.2.1, addr) then ((0, 0, 0, 0, [], []), 6) else
    let p := addr.fdiv (2 ^ min (Int.toNat 12) IntKind.i64.bits)
    let w := root.2.2.2.2.1
    let l1 := root.2.2.2.2.2.1
    let l2 := IntKind.i64.wrap (l1 - 1)
    let l3 := IntKind.i64.wrap (l2 - 1)
    let l4 := IntKind.i64.wrap (l3 - 1)
    let b1 := root.2.1
    let m1 := maS ts w addr l1 b1
    let m2 := maS ts w addr l2 m1.2.1
    let m3 := maS ts w addr l3 m2.2.1
    bif decide (l1 ≥ 0) then wkF ts w addr l1 b1 (bif decide (l2 ≥ 0) then wkF ts w addr l2 m1.2.1 (bif decide (l3 ≥ 0) then wkF ts w addr l3 m2.2.1 (bif decide (l4 ≥ 0) then
        (bif !decide (ftS ts m3.2.1 ≥ 0) then z13 else bif (taS ts m3.2.1).2.1 != w then z13 else bif (taS ts m3.2.1).2.2.1 != l4 then z13 else z13)
      else ((b1, p, m3.2.1, m3.2.2.1, [m1.2.2.2] ++ [m2.2.2.2] ++ [m3.2.2.2], [b1] ++ [m1.2.1] ++ [m2.2.1]), 0)) else ((b1, p, m2.2.1, m2.2.2.1, [m1.2.2.2] ++ [m2.2.2.2], [b1] ++ [m1.2.1]), 0)) else ((b1, p, m1.2.1, m1.2.2.1, [m1.2.2.2], [b1]), 0)) else ((b1, p, 0, 0, [], []), 0) := rfl
theorem F_rwlk_eq : F_rwlk (ts, root, addr) = bif !tabsB ts then ((0, 0, 0, 0, [], []), 1) else bif !vcapB root then ((0, 0, 0, 0, [], []), 5) else bif root.1 != 3 then ((0, 0, 0, 0, [], []), 5) else bif root.2.2.2.2.2.1 != IntKind.i64.wrap ((geoS root.2.2.2.2.1).1 - 1) then ((0, 0, 0, 0, [], []), 5) else bif !vaS (root.2.2.2.2.1, addr) then ((0, 0, 0, 0, [], []), 6) else
    let p := IntKind.i64.wrap (addr.tdiv 4096)
    let w := root.2.2.2.2.1
    let l1 := root.2.2.2.2.2.1
    let l2 := IntKind.i64.wrap (l1 - 1)
    let l3 := IntKind.i64.wrap (l2 - 1)
    let l4 := IntKind.i64.wrap (l3 - 1)
    let b1 := root.2.1
    let m1 := maS ts w addr l1 b1
    let m2 := maS ts w addr l2 m1.2.1
    let m3 := maS ts w addr l3 m2.2.1
    bif decide (l1 ≥ 0) then wkR ts w addr l1 b1 (bif decide (l2 ≥ 0) then wkR ts w addr l2 m1.2.1 (bif decide (l3 ≥ 0) then wkR ts w addr l3 m2.2.1 (bif decide (l4 ≥ 0) then
        (bif decide (ftS ts m3.2.1 < 0) then z13 else bif (taS ts m3.2.1).2.1 != w then z13 else bif (taS ts m3.2.1).2.2.1 != l4 then z13 else z13)
      else ((b1, p, m3.2.1, m3.2.2.1, [] ++ [m1.2.2.2] ++ [m2.2.2.2] ++ [m3.2.2.2], [] ++ [b1] ++ [m1.2.1] ++ [m2.2.1]), 0)) else ((b1, p, m2.2.1, m2.2.2.1, [] ++ [m1.2.2.2] ++ [m2.2.2.2], [] ++ [b1] ++ [m1.2.1]), 0)) else ((b1, p, m1.2.1, m1.2.2.1, [] ++ [m1.2.2.2], [] ++ [b1]), 0)) else ((b1, p, 0, 0, [], []), 0) := rfl
end
theorem P_rwlk_eq (ts : List SPT) (root : SCp) (addr : Int) : P_rwlk (ts, root, addr) = (okM ts && bif !tabsB ts then true else bif !vcapB root then true else bif root.1 != 3 then true else bif root.2.2.2.2.2.1 != IntKind.i64.wrap ((geoS root.2.2.2.2.1).1 - 1) then true else bif !vaS (root.2.2.2.2.1, addr) then true else
    let w := root.2.2.2.2.1
    let l1 := root.2.2.2.2.2.1
    let l2 := IntKind.i64.wrap (l1 - 1)
    let l3 := IntKind.i64.wrap (l2 - 1)
    let l4 := IntKind.i64.wrap (l3 - 1)
    let b1 := root.2.1
    let m1 := maS ts w addr l1 b1
    let m2 := maS ts w addr l2 m1.2.1
    let m3 := maS ts w addr l3 m2.2.1
    bif decide (l1 ≥ 0) then wkP ts w addr l1 b1 (bif decide (l2 ≥ 0) then wkP ts w addr l2 m1.2.1 (bif decide (l3 ≥ 0) then wkP ts w addr l3 m2.2.1 (bif decide (l4 ≥ 0) then
       len40n ts && bif decide (ftS ts m3.2.1 < 0) then true else decide (0 ≤ ftS ts m3.2.1) && decide (ftS ts m3.2.1 < (↑ts.length : Int)) && bif (taS ts m3.2.1).2.1 != w then true else decide (0 ≤ ftS ts m3.2.1) && decide (ftS ts m3.2.1 < (↑ts.length : Int)) && bif (taS ts m3.2.1).2.2.1 != l4 then true else decide (0 ≤ ftS ts m3.2.1) && decide (ftS ts m3.2.1 < (↑ts.length : Int)) && (len40n (taS ts m3.2.1).2.2.2 && decide (faS ts w addr l4 m3.2.1 < 0))
      else true) else true) else true) else true) := rfl
theorem P_wlk_eq (ts : List SPT) (root : SCp) (addr : Int) : P_wlk (ts, root, addr) = P_rwlk (ts, root, addr) := by
  simp only [P_wlk, P_rwlk, ge_lt0]
theorem lv_neg {b : Int} {l : Int} (h : (l != b) = false) : l = b := by simpa using h
theorem rwlk_both : ∀ a : List SPT × SCp × Int, okM a.1 = true → P_rwlk a = true ∧ F_rwlk a = wlkS a := by
  rintro ⟨ts, root, addr⟩ h
  have h : okM ts = true := h
  rw [P_rwlk_eq, F_rwlk_eq, wlkS, h, Bool.true_and]
  simp only [geoW]
  cases hT : tabsB ts
  · exact ⟨rfl, rfl⟩
  cases hV : vcapB root
  · exact ⟨rfl, rfl⟩
  cases hK : root.1 != 3
  case true => exact ⟨rfl, rfl⟩
  cases hL : root.2.2.2.2.2.1 != (geoS root.2.2.2.2.1).1 - 1
  case true => exact ⟨rfl, rfl⟩
  cases hA : vaS (root.2.2.2.2.1, addr)
  · exact ⟨rfl, rfl⟩
  obtain ⟨hg, ha, hb⟩ := va_range hA
  have hL := lv_neg hL
  simp only [Bool.not_true, cond_false, pg_t ha hb]
  rw [hL]
  rcases geo_3 _ hg with g | g
  · rw [g]
    exact ⟨wkP_ok h (wkP_ok h rfl), rfl⟩
  · rw [g]
    exact ⟨wkP_ok h (wkP_ok h (wkP_ok h rfl)), rfl⟩
theorem F_wlk_r : ∀ a : List SPT × SCp × Int, okM a.1 = true → F_wlk a = F_rwlk a := by
  rintro ⟨ts, root, addr⟩ h
  rw [F_wlk_eq, F_rwlk_eq]
  simp only [geoW, wkF_R, ge_lt0, pg_s, List.nil_append]
  cases hA : vaS (root.2.2.2.2.1, addr)
  · rfl
  obtain ⟨hg, ha, hb⟩ := va_range hA
  simp only [pg_t ha hb]
theorem wlk_both : ∀ a : List SPT × SCp × Int, okM a.1 = true → P_wlk a = true ∧ F_wlk a = wlkS a := fun a h => by
  rw [F_wlk_r a h]
  obtain ⟨ts, root, addr⟩ := a
  rw [P_wlk_eq]
  exact rwlk_both _ h
theorem wlk_P : ∀ a : List SPT × SCp × Int, (fun a : List SPT × SCp × Int => okM a.1) a = true → P_wlk a = true := fun a h => (wlk_both a h).1
theorem wlk_F : ∀ a : List SPT × SCp × Int, (fun a : List SPT × SCp × Int => okM a.1) a = true → F_wlk a = wlkS a := fun a h => (wlk_both a h).2
theorem wlk_run : ∀ a, (fun a => okM a.1 : (List (SPT)) × SCp × Int → Bool) a = true → ∃ f, M_wlk f a = some ((wlkS : (List (SPT)) × SCp × Int → STr × Int) a) := fun a h => by have h1 := wlk_auto a (wlk_P a h); rw [wlk_F a h] at h1; exact h1
noncomputable def E_wlk : Ent := ⟨21, [.rd tSPT, .g tSCp, .c (.int .i64)], [.g tSTr, .v (.int .i64)], fun a => (fun a => okM a.1 : (List (SPT)) × SCp × Int → Bool) a, fun a => (wlkS : (List (SPT)) × SCp × Int → STr × Int) a⟩
theorem E_wlk_ok : E_wlk.Ok Try.prog := fun a hp vs hv => (wlk_run a hp).elim fun f h => fnX_ok (C := C_wlk) (Lt := Lt_wlk) (fn := Try.f21) (rs := [.cell 6 45, .tmp 7]) [.rd tSPT, .g tSCp, .c (.int .i64)] [.g tSTr, .v (.int .i64)] mixed es_wlk Try.func21 rfl rfl rfl (by kernel_rfl) (by kernel_rfl) f h vs hv
end Go.AL
/-
  Layer 16: walks, Sync and caches: models. By an AI agent.
-/
namespace Go.AL
open Go.Proofs
set_option linter.unusedVariables false
set_option linter.unusedSimpArgs false
def okL (l : List STr) : Bool := len36n l && l.all trPre
theorem okL_len {l : List STr} (h : okL l = true) : l.length ≤ 68719476736 := of_decide_eq_true (Bool.and_eq_true_iff.1 h).1
theorem okL_mem {l : List STr} (h : okL l = true) {t : STr} (ht : t ∈ l) : trPre t = true := List.all_eq_true.1 (Bool.and_eq_true_iff.1 h).2 t ht
theorem tr40 {u : STr} (h : trPre u = true) : (len40n u.2.2.2.2.1 && len40n u.2.2.2.2.2) = true := by
  obtain ⟨h1, h2⟩ := Bool.and_eq_true_iff.1 h
  have h1 : u.2.2.2.2.1.length ≤ 68719476736 := of_decide_eq_true h1
  have h2 : u.2.2.2.2.2.length ≤ 68719476736 := of_decide_eq_true h2
  rw [Bool.and_eq_true]
  exact ⟨decide_eq_true (by omega), decide_eq_true (by omega)⟩
def keepF (t u : STr) : Bool := bif u.1 != t.1 then true else u.2.1 != t.2.1
noncomputable def C_fil1 : Cfg := ⟨Try.prog, [], pmT [], 16, [], []⟩
theorem es_fil1 : EsOk Try.prog [] [] := es_nil
def Lt_fil1 : Nat → LD := ldT []
noncomputable def M_fil1 (f : Nat) (a : STr × STr) : Option (Bool) := (runX (C_fil1) Lt_fil1 (Kret Try.prog [.tmp 3] [.v (.bool)]) f [.code (bodyOf Try.f72)] (initX [.g tSTr, .cp tSTr] a) : Option (ResT [.v (.bool)]))
theorem M_fil1_eq (f : Nat) (u : STr) (t : STr) : M_fil1 (f + 1) (u, t) =
    bif u.1 != t.1 then some true else some (u.2.1 != t.2.1) := by kernel_rfl
noncomputable def F_fil1 : (STr × STr) → Bool
  | (u, t) => bif u.1 != t.1 then true else u.2.1 != t.2.1
noncomputable def P_fil1 : (STr × STr) → Bool
  | (u, t) => true
theorem fil1_auto : ∀ a : STr × STr, Rns (fun f => M_fil1 f a) (P_fil1 a) (F_fil1 a)
  | (u, t) => ev_step (fun f => M_fil1_eq f _ _) (ev_bift ev_some ev_some)
theorem fil1_P : ∀ a : STr × STr, (fun _ => true) a = true → P_fil1 a = true := fun a h => rfl
theorem fil1_F : ∀ a : STr × STr, (fun _ => true) a = true → F_fil1 a = (fun a : STr × STr => keepF a.2 a.1) a := fun a h => rfl
theorem fil1_run : ∀ a, (fun _ => true : STr × STr → Bool) a = true → ∃ f, M_fil1 f a = some ((fun a => keepF a.2 a.1 : STr × STr → Bool) a) := fun a h => by have h1 := fil1_auto a (fil1_P a h); rw [fil1_F a h] at h1; exact h1
noncomputable def E_fil1 : Ent := ⟨72, [.g tSTr, .cp tSTr], [.v (.bool)], fun a => (fun _ => true : STr × STr → Bool) a, fun a => (fun a => keepF a.2 a.1 : STr × STr → Bool) a⟩
theorem E_fil1_ok : E_fil1.Ok Try.prog := fun a hp vs hv => (fil1_run a hp).elim fun f h => fnX_ok (C := C_fil1) (Lt := Lt_fil1) (fn := Try.f72) (rs := [.tmp 3]) [.g tSTr, .cp tSTr] [.v (.bool)] mixed es_fil1 Try.func72 rfl rfl rfl (by kernel_rfl) (by kernel_rfl) f h vs hv
noncomputable def C_flf : Cfg := ⟨Try.prog, [E_ctr, E_fil1], pmT [], 24, [], []⟩
theorem es_flf : EsOk Try.prog [E_ctr, E_fil1] [] := es_cons E_ctr_ok (es_cons E_fil1_ok (es_nil))
def Lt_flf : Nat → LD := ldT [(0, ⟨[.fn 1 72 [tSTr], .list 5 999 45 6 tSTr, .rd 8 tSTr, .c 9 (.int .i64), .c 10 (.int .i64)], [], 0⟩)]
noncomputable def M_flf (f : Nat) (a : (List (STr)) × STr) : Option ((List (STr))) := (runX (C_flf) Lt_flf (Kret Try.prog [.tmp 4] [.o 45 6 tSTr]) f [.code (bodyOf Try.f71)] (initX [.rd tSTr, .fn 72 [tSTr]] a) : Option (ResT [.o 45 6 tSTr]))
noncomputable def L_flf_0 (f : Nat) (x : STr × (List (STr)) × (List (STr)) × Int × Int) : Option ((List (STr))) := (runX (C_flf) Lt_flf (Kret Try.prog [.tmp 4] [.o 45 6 tSTr]) f (headOf Try.f71 0) ((Lt_flf 0).mk' x) : Option (ResT [.o 45 6 tSTr]))
theorem M_flf_eq (f : Nat) (tlb : List (STr)) (keep : STr) : M_flf (f + 1) (tlb, keep) =
    L_flf_0 f (keep, [], tlb, (↑tlb.length : Int), 0) := by kernel_rfl
theorem L_flf_0_eq (f : Nat) (keep : STr) (out : List (STr)) (x8 : List (STr)) (x9 : Int) (x10 : Int) : L_flf_0 (f + 1) (keep, out, x8, x9, x10) =
    bif decide (x10 < x9) then bif decide (0 ≤ x10) && decide (x10 < (↑x8.length : Int)) then bif keepF keep (x8.getD x10.toNat (0, 0, 0, 0, [], [])) then bif len40n (x8.getD x10.toNat (0, 0, 0, 0, [], [])).2.2.2.2.1 && len40n (x8.getD x10.toNat (0, 0, 0, 0, [], [])).2.2.2.2.2 then bif decide ((out.length + [x8.getD x10.toNat (0, 0, 0, 0, [], [])].length) * 80 ≤ 140737488355328) then L_flf_0 f (keep, out ++ [x8.getD x10.toNat (0, 0, 0, 0, [], [])], x8, x9, IntKind.i64.wrap (x10 + 1)) else none else none else L_flf_0 f (keep, out, x8, x9, IntKind.i64.wrap (x10 + 1)) else none else some out := by kernel_rfl
noncomputable def F_flf_0 : List (STr) → (STr × (List (STr)) × (List (STr)) × Int × Nat) → (List (STr))
  | [], (keep, out, x8, x9, x10) => out
  | uu :: rest, (keep, out, x8, x9, x10) => bif keepF keep uu then F_flf_0 rest (keep, out ++ [uu], x8, x9, x10 + 1) else F_flf_0 rest (keep, out, x8, x9, x10 + 1)
noncomputable def P_flf_0 : List (STr) → (STr × (List (STr)) × (List (STr)) × Int × Nat) → Bool
  | [], (keep, out, x8, x9, x10) => true
  | uu :: rest, (keep, out, x8, x9, x10) => bif keepF keep uu then len40n uu.2.2.2.2.1 && len40n uu.2.2.2.2.2 && (decide ((out.length + [uu].length) * 80 ≤ 140737488355328) && P_flf_0 rest (keep, out ++ [uu], x8, x9, x10 + 1)) else P_flf_0 rest (keep, out, x8, x9, x10 + 1)
theorem A_flf_0 : ∀ (rest : List (STr)) (keep : STr) (out : List (STr)) (x8 : List (STr)) (x9 : Int) (x10 : Nat) (hd : x8.drop x10 = rest) (hn : x9 = ((x8.length : Nat) : Int)) (hl : x8.length ≤ 1099511627776), Rns (fun f => L_flf_0 f (keep, out, x8, x9, ((x10 : Nat) : Int))) (P_flf_0 rest (keep, out, x8, x9, x10)) (F_flf_0 rest (keep, out, x8, x9, x10))
  | [], keep, out, x8, x9, x10, hd, hn, hl => ev_step (T := fun f => some out) (fun f => (L_flf_0_eq f _ _ _ _ _).trans (by simp only [ge_decn hn (drop_ge hd), ge0, Bool.and_self, Bool.true_and, cond_true, cond_false, List.length_set] <;> rfl)) ev_some
  | uu :: rest, keep, out, x8, x9, x10, hd, hn, hl => ev_step (T := fun f => bif keepF keep uu then bif len40n uu.2.2.2.2.1 && len40n uu.2.2.2.2.2 then bif decide ((out.length + [uu].length) * 80 ≤ 140737488355328) then L_flf_0 f (keep, out ++ [uu], x8, x9, (↑(x10 + 1) : Int)) else none else none else L_flf_0 f (keep, out, x8, x9, (↑(x10 + 1) : Int))) (fun f => (L_flf_0_eq f _ _ _ _ _).trans (by simp only [lt_decn hn (drop_lt hd), lt_dec (drop_lt hd), drop_get hd, wrap_succ (drop_lt hd) hl, getD_set (drop_lt hd), ge0, Bool.and_self, Bool.true_and, cond_true, cond_false, List.length_set] <;> rfl)) (ev_bif (ev_chk (ev_chk (A_flf_0 rest _ _ _ _ _ (by first | exact drop_succ hd | exact drop_set hd | exact drop_setS (drop_set hd)) (by first | exact hn | simpa using hn) (by first | exact hl | simpa using hl)))) (A_flf_0 rest _ _ _ _ _ (by first | exact drop_succ hd | exact drop_set hd | exact drop_setS (drop_set hd)) (by first | exact hn | simpa using hn) (by first | exact hl | simpa using hl)))
noncomputable def F_flf : ((List (STr)) × STr) → (List (STr))
  | (tlb, keep) => F_flf_0 tlb (keep, [], tlb, (↑tlb.length : Int), 0)
noncomputable def P_flf : ((List (STr)) × STr) → Bool
  | (tlb, keep) => decide (tlb.length ≤ 1099511627776) && P_flf_0 tlb (keep, [], tlb, (↑tlb.length : Int), 0)
theorem flf_auto : ∀ a : (List (STr)) × STr, Rns (fun f => M_flf f a) (P_flf a) (F_flf a)
  | (tlb, keep) => ev_step (fun f => M_flf_eq f _ _) (ev_and fun hh => A_flf_0 _ _ _ _ _ _ rfl (by first | rfl | simp) (of_decide_eq_true hh))
theorem flf_0 (t : STr) (x8 : List STr) (x9 : Int) : ∀ (r out : List STr) (k : Nat), (∀ e ∈ r, trPre e = true) → out.length + r.length ≤ 68719476736 → F_flf_0 r (t, out, x8, x9, k) = out ++ r.filter (keepF t) ∧ P_flf_0 r (t, out, x8, x9, k) = true
  | [], out, k, h, hl => ⟨by simp [F_flf_0], rfl⟩
  | u :: r, out, k, h, hl => by
    simp only [List.length_cons] at hl
    have hu := tr40 (h u (List.mem_cons_self ..))
    obtain ⟨i1, i2⟩ := flf_0 t x8 x9 r (out ++ [u]) (k + 1) (fun e he => h e (List.mem_cons_of_mem _ he)) (by simp; omega)
    obtain ⟨j1, j2⟩ := flf_0 t x8 x9 r out (k + 1) (fun e he => h e (List.mem_cons_of_mem _ he)) (by omega)
    simp only [F_flf_0, P_flf_0, i1, i2, j1, j2, hu, Bool.true_and, List.filter_cons]
    cases hk : keepF t u
    · exact ⟨rfl, rfl⟩
    · simp only [cond_true, if_true, List.append_assoc, List.singleton_append, Bool.and_true, decide_eq_true_eq, true_and]
      simp only [List.length_singleton]; omega
theorem flf_P : ∀ a : List STr × STr, (fun a : List STr × STr => okL a.1) a = true → P_flf a = true := fun a h => by
  have h : okL a.1 = true := h
  simp only [P_flf, (flf_0 a.2 _ _ a.1 [] 0 (fun e he => okL_mem h he) (by simpa using okL_len h)).2, Bool.and_true]
  exact decide_eq_true (by have := okL_len h; omega)
theorem flf_F : ∀ a : List STr × STr, (fun a : List STr × STr => okL a.1) a = true → F_flf a = (fun a : List STr × STr => a.1.filter (keepF a.2)) a := fun a h => by
  have h : okL a.1 = true := h
  simp only [F_flf, (flf_0 a.2 _ _ a.1 [] 0 (fun e he => okL_mem h he) (by simpa using okL_len h)).1, List.nil_append]
theorem flf_run : ∀ a, (fun a => okL a.1 : (List (STr)) × STr → Bool) a = true → ∃ f, M_flf f a = some ((fun a => a.1.filter (keepF a.2) : (List (STr)) × STr → (List (STr))) a) := fun a h => by have h1 := flf_auto a (flf_P a h); rw [flf_F a h] at h1; exact h1
noncomputable def E_flf : Ent := ⟨71, [.rd tSTr, .fn 72 [tSTr]], [.o 45 6 tSTr], fun a => (fun a => okL a.1 : (List (STr)) × STr → Bool) a, fun a => (fun a => a.1.filter (keepF a.2) : (List (STr)) × STr → (List (STr))) a⟩
theorem E_flf_ok : E_flf.Ok Try.prog := fun a hp vs hv => (flf_run a hp).elim fun f h => fnX_ok (C := C_flf) (Lt := Lt_flf) (fn := Try.f71) (rs := [.tmp 4]) [.rd tSTr, .fn 72 [tSTr]] [.o 45 6 tSTr] mixed es_flf Try.func71 rfl rfl rfl (by kernel_rfl) (by kernel_rfl) f h vs hv
noncomputable def C_vfil : Cfg := ⟨Try.prog, [E_flf, E_ctr], pmT [], 20, [], [(13, tSTr)]⟩
theorem es_vfil : EsOk Try.prog [E_flf, E_ctr] [] := es_cons E_flf_ok (es_cons E_ctr_ok (es_nil))
def Lt_vfil : Nat → LD := ldT []
noncomputable def M_vfil (f : Nat) (a : (List (STr)) × STr) : Option ((List (STr))) := (runX (C_vfil) Lt_vfil (Kret Try.prog [.tmp 4] [.v (.sl tSTr)]) f [.code (bodyOf Try.f41)] (initX [.rd tSTr, .g tSTr] a) : Option (ResT [.v (.sl tSTr)]))
theorem M_vfil_eq (f : Nat) (tlb : List (STr)) (t : STr) : M_vfil (f + 1) (tlb, t) =
    bif okL tlb then bif len40n t.2.2.2.2.1 && len40n t.2.2.2.2.2 then bif decide (((List.filter (keepF t) tlb).length + [t].length) * 80 ≤ 140737488355328) then bif decide (0 ≤ if IntKind.i64.wrap ((↑(List.filter (keepF t) tlb ++ [t]).length : Int) - 8) > 0 then IntKind.i64.wrap ((↑(List.filter (keepF t) tlb ++ [t]).length : Int) - 8) else 0) && decide ((if IntKind.i64.wrap ((↑(List.filter (keepF t) tlb ++ [t]).length : Int) - 8) > 0 then IntKind.i64.wrap ((↑(List.filter (keepF t) tlb ++ [t]).length : Int) - 8) else 0) ≤ (↑(List.filter (keepF t) tlb ++ [t]).length : Int)) then some (List.drop (if IntKind.i64.wrap ((↑(List.filter (keepF t) tlb ++ [t]).length : Int) - 8) > 0 then IntKind.i64.wrap ((↑(List.filter (keepF t) tlb ++ [t]).length : Int) - 8) else 0).toNat (List.filter (keepF t) tlb ++ [t])) else none else none else none else none := by kernel_rfl
noncomputable def F_vfil : ((List (STr)) × STr) → (List (STr))
  | (tlb, t) => List.drop (if IntKind.i64.wrap ((↑(List.filter (keepF t) tlb ++ [t]).length : Int) - 8) > 0 then IntKind.i64.wrap ((↑(List.filter (keepF t) tlb ++ [t]).length : Int) - 8) else 0).toNat (List.filter (keepF t) tlb ++ [t])
noncomputable def P_vfil : ((List (STr)) × STr) → Bool
  | (tlb, t) => okL tlb && (len40n t.2.2.2.2.1 && len40n t.2.2.2.2.2 && (decide (((List.filter (keepF t) tlb).length + [t].length) * 80 ≤ 140737488355328) && (decide (0 ≤ if IntKind.i64.wrap ((↑(List.filter (keepF t) tlb ++ [t]).length : Int) - 8) > 0 then IntKind.i64.wrap ((↑(List.filter (keepF t) tlb ++ [t]).length : Int) - 8) else 0) && decide ((if IntKind.i64.wrap ((↑(List.filter (keepF t) tlb ++ [t]).length : Int) - 8) > 0 then IntKind.i64.wrap ((↑(List.filter (keepF t) tlb ++ [t]).length : Int) - 8) else 0) ≤ (↑(List.filter (keepF t) tlb ++ [t]).length : Int)))))
theorem vfil_auto : ∀ a : (List (STr)) × STr, Rns (fun f => M_vfil f a) (P_vfil a) (F_vfil a)
  | (tlb, t) => ev_step (fun f => M_vfil_eq f _ _) (ev_chk (ev_chk (ev_chk (ev_chk1 ev_some))))
def cutL (l : List STr) : List STr := l.drop (l.length - 8)
def filS (a : List STr × STr) : List STr := cutL (a.1.filter (keepF a.2) ++ [a.2])
def filPre (a : List STr × STr) : Bool := okL a.1 && trPre a.2
theorem cut_n (n : Nat) (h : n ≤ 68719476737) : IntKind.i64.wrap (((n : Nat) : Int) - 8) = (n : Int) - 8 := i64_id (by omega) (by omega)
theorem fil_len {a : List STr × STr} (h : okL a.1 = true) : (a.1.filter (keepF a.2) ++ [a.2]).length ≤ 68719476737 := by
  have := okL_len h
  have := List.length_filter_le (keepF a.2) a.1
  rw [List.length_append, List.length_singleton]; omega
theorem cut_d {l : List STr} : (if ((l.length : Nat) : Int) - 8 > 0 then ((l.length : Nat) : Int) - 8 else 0).toNat = l.length - 8 := by
  split <;> omega
theorem vfil_P : ∀ a : List STr × STr, filPre a = true → P_vfil a = true := fun a h => by
  obtain ⟨h1, h2⟩ := Bool.and_eq_true_iff.1 h
  have hl := okL_len h1
  have hf := List.length_filter_le (keepF a.2) a.1
  simp only [P_vfil, h1, tr40 h2, cut_n _ (fil_len h1), Bool.true_and, Bool.and_eq_true, decide_eq_true_eq, List.length_singleton]
  refine ⟨by omega, ?_, ?_⟩ <;> split <;> omega
theorem vfil_F : ∀ a : List STr × STr, filPre a = true → F_vfil a = filS a := fun a h => by
  obtain ⟨h1, h2⟩ := Bool.and_eq_true_iff.1 h
  simp only [F_vfil, cut_n _ (fil_len h1), cut_d]
  rfl
theorem vfil_run : ∀ a, (filPre : (List (STr)) × STr → Bool) a = true → ∃ f, M_vfil f a = some ((filS : (List (STr)) × STr → (List (STr))) a) := fun a h => by have h1 := vfil_auto a (vfil_P a h); rw [vfil_F a h] at h1; exact h1
noncomputable def E_vfil : Ent := ⟨41, [.rd tSTr, .g tSTr], [.v (.sl tSTr)], fun a => (filPre : (List (STr)) × STr → Bool) a, fun a => (filS : (List (STr)) × STr → (List (STr))) a⟩
theorem E_vfil_ok : E_vfil.Ok Try.prog := fun a hp vs hv => (vfil_run a hp).elim fun f h => fnX_ok (C := C_vfil) (Lt := Lt_vfil) (fn := Try.f41) (rs := [.tmp 4]) [.rd tSTr, .g tSTr] [.v (.sl tSTr)] mixed es_vfil Try.func41 rfl rfl rfl (by kernel_rfl) (by kernel_rfl) f h vs hv
end Go.AL
/-
  Layer 16: what the laws share; awake holds. By an AI agent.
-/
namespace Go.AL
open Go.Proofs
set_option linter.unusedVariables false
set_option linter.unusedSimpArgs false
def tcapS (n : Int) : SCp := [((3, 4096, 12, 7, 32, 1, false) : SCp), (3, 8192, 12, 7, 32, 0, false), (3, 12288, 12, 7, 32, 0, false), (3, 16384, 12, 7, 32, 1, false)].getD (place (n, 4)).toNat (0, 0, 0, 0, 0, 0, false)
theorem place_r (n k : Int) (hk : 0 < k) : 0 ≤ place (n, k) ∧ place (n, k) < k := by
  simp only [place]
  rw [decide_eq_false (by omega), cond_false]
  exact ⟨Int.emod_nonneg _ (by omega), Int.emod_lt_of_pos _ hk⟩
noncomputable def C_tcap : Cfg := ⟨Try.prog, [E_top, E_low, E_place], pmT [], 14, [], []⟩
theorem es_tcap : EsOk Try.prog [E_top, E_low, E_place] [] := es_cons E_top_ok (es_cons E_low_ok (es_cons E_place_ok (es_nil)))
def Lt_tcap : Nat → LD := ldT []
noncomputable def M_tcap (f : Nat) (a : Int) : Option (SCp) := (runX (C_tcap) Lt_tcap (Kret Try.prog [.cell 2 25] [.g tSCp]) f [.code (bodyOf Try.f16)] (initX [.c (.int .i64)] a) : Option (ResT [.g tSCp]))
theorem M_tcap_eq (f : Nat) (n : Int) : M_tcap (f + 1) n =
    bif decide (0 ≤ place (n, 4)) && decide (place (n, 4) < (↑[(3, 4096, 12, 7, 32, 1, false), (3, 8192, 12, 7, 32, 0, false), (3, 12288, 12, 7, 32, 0, false), (3, 16384, 12, 7, 32, 1, false)].length : Int)) then some ([(3, 4096, 12, 7, 32, 1, false), (3, 8192, 12, 7, 32, 0, false), (3, 12288, 12, 7, 32, 0, false), (3, 16384, 12, 7, 32, 1, false)].getD (place (n, 4)).toNat (0, 0, 0, 0, 0, 0, false)) else none := by kernel_rfl
noncomputable def F_tcap : Int → SCp
  | n => [(3, 4096, 12, 7, 32, 1, false), (3, 8192, 12, 7, 32, 0, false), (3, 12288, 12, 7, 32, 0, false), (3, 16384, 12, 7, 32, 1, false)].getD (place (n, 4)).toNat (0, 0, 0, 0, 0, 0, false)
noncomputable def P_tcap : Int → Bool
  | n => decide (0 ≤ place (n, 4)) && decide (place (n, 4) < (↑[(3, 4096, 12, 7, 32, 1, false), (3, 8192, 12, 7, 32, 0, false), (3, 12288, 12, 7, 32, 0, false), (3, 16384, 12, 7, 32, 1, false)].length : Int))
theorem tcap_auto : ∀ a : Int, Rns (fun f => M_tcap f a) (P_tcap a) (F_tcap a)
  | n => ev_step (fun f => M_tcap_eq f _) (ev_chk1 ev_some)
theorem tcap_P : ∀ n : Int, (fun _ => true) n = true → P_tcap n = true := fun n _ => by
  obtain ⟨h1, h2⟩ := place_r n 4 (by omega)
  simp only [P_tcap, decide_eq_true h1, Bool.true_and, decide_eq_true_eq]
  exact h2
theorem tcap_F : ∀ n : Int, (fun _ => true) n = true → F_tcap n = tcapS n := fun n _ => rfl
theorem tcap_run : ∀ a, (fun _ => true : Int → Bool) a = true → ∃ f, M_tcap f a = some ((tcapS : Int → SCp) a) := fun a h => by have h1 := tcap_auto a (tcap_P a h); rw [tcap_F a h] at h1; exact h1
noncomputable def E_tcap : Ent := ⟨16, [.c (.int .i64)], [.g tSCp], fun a => (fun _ => true : Int → Bool) a, fun a => (tcapS : Int → SCp) a⟩
theorem E_tcap_ok : E_tcap.Ok Try.prog := fun a hp vs hv => (tcap_run a hp).elim fun f h => fnX_ok (C := C_tcap) (Lt := Lt_tcap) (fn := Try.f16) (rs := [.cell 2 25]) [.c (.int .i64)] [.g tSCp] mixed es_tcap Try.func16 rfl rfl rfl (by kernel_rfl) (by kernel_rfl) f h vs hv
def mnodS (n : Int) : SNd := bif decide (place (n, 8) < 4) then (0, place (n, 8) + 1, 0, [], tcapS (place (n, 8))) else (0, place (n, 8) + 1, 0, [], 2, place (n, 8) * 4096, 12, 3, 0, 0, false)
noncomputable def C_mnod : Cfg := ⟨Try.prog, [E_place, E_page, E_tcap], pmT [], 23, [], []⟩
theorem es_mnod : EsOk Try.prog [E_place, E_page, E_tcap] [] := es_cons E_place_ok (es_cons E_page_ok (es_cons E_tcap_ok (es_nil)))
def Lt_mnod : Nat → LD := ldT []
noncomputable def M_mnod (f : Nat) (a : Int) : Option (SNd) := (runX (C_mnod) Lt_mnod (Kret Try.prog [.cell 2 42] [.g tSNd]) f [.code (bodyOf Try.f29)] (initX [.c (.int .i64)] a) : Option (ResT [.g tSNd]))
theorem M_mnod_eq (f : Nat) (n : Int) : M_mnod (f + 1) n =
    bif decide (place (n, 8) < 4) then some (0, IntKind.i64.wrap (1 + place (n, 8)), 0, [], tcapS (place (n, 8))) else some (0, IntKind.i64.wrap (1 + place (n, 8)), 0, [], 2, IntKind.i64.wrap (place (n, 8) * 2 ^ min (Int.toNat 12) IntKind.i64.bits), 12, 3, 0, 0, false) := by kernel_rfl
noncomputable def F_mnod : Int → SNd
  | n => bif decide (place (n, 8) < 4) then (0, IntKind.i64.wrap (1 + place (n, 8)), 0, [], tcapS (place (n, 8))) else (0, IntKind.i64.wrap (1 + place (n, 8)), 0, [], 2, IntKind.i64.wrap (place (n, 8) * 2 ^ min (Int.toNat 12) IntKind.i64.bits), 12, 3, 0, 0, false)
noncomputable def P_mnod : Int → Bool
  | n => true
theorem mnod_auto : ∀ a : Int, Rns (fun f => M_mnod f a) (P_mnod a) (F_mnod a)
  | n => ev_step (fun f => M_mnod_eq f _) (ev_bift ev_some ev_some)
theorem mnod_P : ∀ n : Int, (fun _ => true) n = true → P_mnod n = true := fun n _ => rfl
theorem mnod_F : ∀ n : Int, (fun _ => true) n = true → F_mnod n = mnodS n := fun n _ => by
  obtain ⟨h1, h2⟩ := place_r n 8 (by omega)
  have e1 : IntKind.i64.wrap (1 + place (n, 8)) = place (n, 8) + 1 := by rw [i64_id (by omega) (by omega)]; omega
  have e2 : IntKind.i64.wrap (place (n, 8) * 2 ^ min (Int.toNat 12) IntKind.i64.bits) = place (n, 8) * 4096 := by
    rw [show place (n, 8) * 2 ^ min (Int.toNat 12) IntKind.i64.bits = place (n, 8) * 4096 from rfl]; exact i64_id (by omega) (by omega)
  simp only [F_mnod, mnodS, e1, e2]
theorem mnod_run : ∀ a, (fun _ => true : Int → Bool) a = true → ∃ f, M_mnod f a = some ((mnodS : Int → SNd) a) := fun a h => by have h1 := mnod_auto a (mnod_P a h); rw [mnod_F a h] at h1; exact h1
noncomputable def E_mnod : Ent := ⟨29, [.c (.int .i64)], [.g tSNd], fun a => (fun _ => true : Int → Bool) a, fun a => (mnodS : Int → SNd) a⟩
theorem E_mnod_ok : E_mnod.Ok Try.prog := fun a hp vs hv => (mnod_run a hp).elim fun f h => fnX_ok (C := C_mnod) (Lt := Lt_mnod) (fn := Try.f29) (rs := [.cell 2 42]) [.c (.int .i64)] [.g tSNd] mixed es_mnod Try.func29 rfl rfl rfl (by kernel_rfl) (by kernel_rfl) f h vs hv
noncomputable def C_awk : Cfg := ⟨Try.prog, [E_top, E_low, E_vmap, E_page, E_wlk, E_vfil], pmT [], 67, [], []⟩
theorem es_awk : EsOk Try.prog [E_top, E_low, E_vmap, E_page, E_wlk, E_vfil] [] := es_cons E_top_ok (es_cons E_low_ok (es_cons E_vmap_ok (es_cons E_page_ok (es_cons E_wlk_ok (es_cons E_vfil_ok (es_nil))))))
def Lt_awk : Nat → LD := ldT []
noncomputable def M_awk (f : Nat) (a : Unit) : Option (Bool) := (runX (C_awk) Lt_awk (Kret Try.prog [.tmp 0] [.v (.bool)]) f [.code (bodyOf Try.f12)] (initX [] a) : Option (ResT [.v (.bool)]))
theorem M_awk_eq (f : Nat)  : M_awk (f + 1) () =
    some ((↑(filS ([], (wlkS ((Go.Proofs.mapS ((Go.Proofs.mapS ([], (3, 4096, 12, 7, 32, 1, false), 0, (0, 1, 0, [], 3, 8192, 12, 7, 32, 0, false), 7)).1, (3, 8192, 12, 7, 32, 0, false), 3, (0, 2, 0, [], 2, 1048576, 12, 3, 0, 0, false), 1)).1, (3, 4096, 12, 7, 32, 1, false), 12293)).1)).length : Int) == 1) := by kernel_rfl
noncomputable def F_awk : Unit → Bool
  | () => (↑(filS ([], (wlkS ((Go.Proofs.mapS ((Go.Proofs.mapS ([], (3, 4096, 12, 7, 32, 1, false), 0, (0, 1, 0, [], 3, 8192, 12, 7, 32, 0, false), 7)).1, (3, 8192, 12, 7, 32, 0, false), 3, (0, 2, 0, [], 2, 1048576, 12, 3, 0, 0, false), 1)).1, (3, 4096, 12, 7, 32, 1, false), 12293)).1)).length : Int) == 1
noncomputable def P_awk : Unit → Bool
  | () => true
theorem awk_auto : ∀ a : Unit, Rns (fun f => M_awk f a) (P_awk a) (F_awk a)
  | () => ev_step (fun f => M_awk_eq f ) ev_some
theorem awk_t : F_awk () = true := by decide +kernel
theorem awk_P : ∀ a : Unit, (fun _ => true) a = true → P_awk a = true := fun _ _ => rfl
theorem awk_F : ∀ a : Unit, (fun _ => true) a = true → F_awk a = (fun _ => true) a := fun _ _ => awk_t
theorem awk_run : ∀ a, (fun _ => true : Unit → Bool) a = true → ∃ f, M_awk f a = some ((fun _ => true : Unit → Bool) a) := fun a h => by have h1 := awk_auto a (awk_P a h); rw [awk_F a h] at h1; exact h1
noncomputable def E_awk : Ent := ⟨12, [], [.v (.bool)], fun a => (fun _ => true : Unit → Bool) a, fun a => (fun _ => true : Unit → Bool) a⟩
theorem E_awk_ok : E_awk.Ok Try.prog := fun a hp vs hv => (awk_run a hp).elim fun f h => fnX_ok (C := C_awk) (Lt := Lt_awk) (fn := Try.f12) (rs := [.tmp 0]) [] [.v (.bool)] mixed es_awk Try.func12 rfl rfl rfl (by kernel_rfl) (by kernel_rfl) f h vs hv
def okN (n : Nat) (l : List SPT) : Bool := decide (l.length ≤ n) && l.all fun t => decide (t.2.2.2.length ≤ n)
theorem okN_len {n : Nat} {l : List SPT} (h : okN n l = true) : l.length ≤ n := of_decide_eq_true (Bool.and_eq_true_iff.1 h).1
theorem okN_mem {n : Nat} {l : List SPT} (h : okN n l = true) {t : SPT} (ht : t ∈ l) : t.2.2.2.length ≤ n := of_decide_eq_true (List.all_eq_true.1 (Bool.and_eq_true_iff.1 h).2 t ht)
theorem okN_mk {n : Nat} {l : List SPT} (h : l.length ≤ n) (h2 : ∀ t ∈ l, t.2.2.2.length ≤ n) : okN n l = true := by
  unfold okN
  rw [Bool.and_eq_true]
  exact ⟨decide_eq_true h, List.all_eq_true.2 fun t ht => decide_eq_true (h2 t ht)⟩
theorem okN_okT {n : Nat} (hn : n ≤ 68719476736) {l : List SPT} (h : okN n l = true) : okT l = true := by
  unfold okT
  rw [Bool.and_eq_true]
  exact ⟨decide_eq_true (Nat.le_trans (okN_len h) hn), List.all_eq_true.2 fun t ht => decide_eq_true (Nat.le_trans (okN_mem h ht) hn)⟩
theorem okN_le {n m : Nat} (hn : n ≤ m) {l : List SPT} (h : okN n l = true) : okN m l = true := okN_mk (Nat.le_trans (okN_len h) hn) fun t ht => Nat.le_trans (okN_mem h ht) hn
theorem bif_p {α : Type} {P : α → Prop} {c : Bool} {x y : α} (hx : P x) (hy : P y) : P (bif c then x else y) := by cases c; exact hy; exact hx
end Go.AL
/-
  Layer 16: what the laws share. By an AI agent.
-/
namespace Go.AL
open Go.Proofs
set_option linter.unusedVariables false
set_option linter.unusedSimpArgs false
theorem insAt_len {α : Type} (l : List α) (k : Nat) (x : α) : (insAt l k x).length = l.length + 1 := by
  unfold insAt
  rw [List.length_append, List.length_append, List.length_take, List.length_drop, List.length_singleton]; omega
theorem insAt_mem {α : Type} {l : List α} {k : Nat} {x y : α} (h : y ∈ insAt l k x) : y = x ∨ y ∈ l := by
  unfold insAt at h
  rcases List.mem_append.1 h with h | h
  · rcases List.mem_append.1 h with h | h
    · exact .inr (List.mem_of_mem_take h)
    · exact .inl (List.mem_singleton.1 h)
  · exact .inr (List.mem_of_mem_drop h)
theorem mapS_okN {n : Nat} (a : List SPT × SCp × Int × SNd × Int) (h : okN n a.1 = true) : okN (n + 1) (mapS a).1 = true := by
  have h0 : (fun r : List SPT × Int => okN (n + 1) r.1 = true) ([], 0) := okN_mk (by simp) (by simp)
  have hl := okN_len h
  have B : ∀ {c : Bool} {x y : List SPT × Int}, okN (n + 1) x.1 = true → okN (n + 1) y.1 = true → okN (n + 1) (bif c then x else y).1 = true := fun hx hy => bif_p (P := fun r : List SPT × Int => okN (n + 1) r.1 = true) hx hy
  unfold mapS
  refine B h0 (B h0 (B h0 (B h0 (B h0 (B h0 (B h0 (B ?_ (B h0 ?_))))))))
  · refine okN_mk (by show (insAt _ _ _).length ≤ _; rw [insAt_len]; omega) fun t ht => ?_
    rcases insAt_mem ht with rfl | ht
    · show 1 ≤ n + 1; omega
    · exact Nat.le_succ_of_le (okN_mem h ht)
  · refine okN_mk (by show (List.set _ _ _).length ≤ _; rw [List.length_set]; omega) fun t ht => ?_
    rcases List.mem_or_eq_of_mem_set ht with ht | rfl
    · exact Nat.le_succ_of_le (okN_mem h ht)
    · show (insAt _ _ _).length ≤ _
      rw [insAt_len]
      have : (Ns.maps (a.1.getD (ftS a.1 a.2.1.2.1).toNat zPT)).length ≤ n := by
        by_cases hk : (ftS a.1 a.2.1.2.1).toNat < a.1.length
        · rw [List.getD_eq_getElem?_getD, List.getElem?_eq_getElem hk]
          exact okN_mem h (List.getElem_mem hk)
        · rw [List.getD_eq_getElem?_getD, List.getElem?_eq_none (by omega)]; exact Nat.zero_le _
      omega
noncomputable def grow1 (ts : List SPT) (u : SAc) : List SPT × Int := mapS (ts, tcapS u.2.1, place (u.2.2.1, 6), mnodS u.2.2.2.1, place (u.2.2.2.2, 8))
noncomputable def grownS : Nat → List SPT → List SAc → List SPT
  | 0, ts, _ => ts
  | _ + 1, ts, [] => ts
  | n + 1, ts, u :: r => grownS n (bif (grow1 ts u).2 == 0 then (grow1 ts u).1 else ts) r
theorem grow1_okN {n : Nat} {ts : List SPT} (u : SAc) (h : okN n ts = true) : okN (n + 1) (bif (grow1 ts u).2 == 0 then (grow1 ts u).1 else ts) = true :=
  bif_p (P := fun l => okN (n + 1) l = true) (mapS_okN _ h) (okN_le (Nat.le_succ _) h)
theorem grownS_okN : ∀ (k n : Nat) (ts : List SPT) (l : List SAc), okN n ts = true → okN (n + k) (grownS k ts l) = true
  | 0, n, ts, l, h => h
  | k + 1, n, ts, [], h => okN_le (Nat.le_add_right _ _) h
  | k + 1, n, ts, u :: r, h => by
    have := grownS_okN k (n + 1) _ r (grow1_okN u h)
    rw [show n + 1 + k = n + (k + 1) by omega] at this
    exact this
noncomputable def C_grow : Cfg := ⟨Try.prog, [E_tcap, E_place, E_mnod, E_rmap], pmT [(5, ([(0, []), (1, []), (2, []), (3, []), (4, []), (5, []), (7, []), (8, []), (9, []), (10, []), (11, []), (13, []), (14, []), (15, []), (16, []), (17, []), (19, []), (20, []), (21, []), (22, []), (23, []), (6, []), (12, []), (18, []), (24, []), (25, []), (26, []), (27, []), (28, []), (29, []), (30, [])], [(5, 6), (17, 45)]))], 50, [], []⟩
theorem es_grow : EsOk Try.prog [E_tcap, E_place, E_mnod, E_rmap] [] := es_cons E_tcap_ok (es_cons E_place_ok (es_cons E_mnod_ok (es_cons E_rmap_ok (es_nil))))
def Lt_grow : Nat → LD := ldT [(0, ⟨[.rd 0 tSAc, .list 3 999 60 4 tSPT, .c 4 (.int .i64)], [], 0⟩)]
noncomputable def M_grow (f : Nat) (a : (List (SAc))) : Option ((List (SPT))) := (runX (C_grow) Lt_grow (Kret Try.prog [.tmp 2] [.o 60 4 tSPT]) f [.code (bodyOf Try.f13)] (initX [.rd tSAc] a) : Option (ResT [.o 60 4 tSPT]))
noncomputable def L_grow_0 (f : Nat) (x : (List (SAc)) × (List (SPT)) × Int) : Option ((List (SPT))) := (runX (C_grow) Lt_grow (Kret Try.prog [.tmp 2] [.o 60 4 tSPT]) f (headOf Try.f13 0) ((Lt_grow 0).mk' x) : Option (ResT [.o 60 4 tSPT]))
theorem M_grow_eq (f : Nat) (l : List (SAc)) : M_grow (f + 1) l =
    L_grow_0 f (l, [], 0) := by kernel_rfl
theorem L_grow_0_eq (f : Nat) (l : List (SAc)) (ts : List (SPT)) (i : Int) : L_grow_0 (f + 1) (l, ts, i) =
    bif decide (i < (↑l.length : Int)) then bif decide (i < 30) then bif decide (0 ≤ i) && decide (i < (↑l.length : Int)) then bif decide (0 ≤ i) && decide (i < (↑l.length : Int)) then bif decide (0 ≤ i) && decide (i < (↑l.length : Int)) then bif decide (0 ≤ i) && decide (i < (↑l.length : Int)) then bif okT ts then bif (Go.Proofs.mapS (ts, tcapS (l.getD i.toNat (0, 0, 0, 0, 0)).2.1, place ((l.getD i.toNat (0, 0, 0, 0, 0)).2.2.1, 6), mnodS (l.getD i.toNat (0, 0, 0, 0, 0)).2.2.2.1, place ((l.getD i.toNat (0, 0, 0, 0, 0)).2.2.2.2, 8))).2 == 0 then L_grow_0 f (l, (Go.Proofs.mapS (ts, tcapS (l.getD i.toNat (0, 0, 0, 0, 0)).2.1, place ((l.getD i.toNat (0, 0, 0, 0, 0)).2.2.1, 6), mnodS (l.getD i.toNat (0, 0, 0, 0, 0)).2.2.2.1, place ((l.getD i.toNat (0, 0, 0, 0, 0)).2.2.2.2, 8))).1, IntKind.i64.wrap (i + 1)) else L_grow_0 f (l, ts, IntKind.i64.wrap (i + 1)) else none else none else none else none else none else some ts else some ts := by kernel_rfl
theorem grow_loop : ∀ (rest pre : List SAc) (ts : List SPT) (n : Nat), pre.length + n = 30 → okN pre.length ts = true → ∃ f, L_grow_0 f (pre ++ rest, ts, ((pre.length : Nat) : Int)) = some (grownS n ts rest)
  | [], pre, ts, n, hp, ho => ⟨1, (L_grow_0_eq 0 _ _ _).trans (by rw [lt_end]; cases n <;> rfl)⟩
  | u :: rest, pre, ts, n, hp, ho => by
    have e1 : IntKind.i64.wrap (((pre.length : Nat) : Int) + 1) = ((pre.length + 1 : Nat) : Int) := by rw [i64_id (by omega) (by omega)]; rfl
    have hT := okN_okT (by omega) ho
    by_cases h1 : ((pre.length : Nat) : Int) < 30
    case neg =>
      have : n = 0 := by omega
      subst this
      refine ⟨1, (L_grow_0_eq 0 _ _ _).trans ?_⟩
      rw [lt_mid]
      simp only [decide_eq_false h1]; rfl
    obtain ⟨m, rfl⟩ : ∃ m, n = m + 1 := ⟨n - 1, by omega⟩
    have ho2 := grow1_okN u ho
    obtain ⟨f, hf⟩ := grow_loop rest (pre ++ [u]) _ m (by simp; omega) (by rw [show (pre ++ [u]).length = pre.length + 1 by simp]; exact ho2)
    refine ⟨f + 1, (L_grow_0_eq f _ _ _).trans ?_⟩
    rw [lt_mid, getD_mid, ge0, e1]
    simp only [decide_eq_true h1, hT, cond_true, cond_false, Bool.and_self]
    rw [show (pre ++ [u]).length = pre.length + 1 by simp, List.append_assoc] at hf
    show (bif (grow1 ts u).2 == 0 then L_grow_0 f (pre ++ u :: rest, (grow1 ts u).1, ((pre.length + 1 : Nat) : Int)) else L_grow_0 f (pre ++ u :: rest, ts, ((pre.length + 1 : Nat) : Int))) = some (grownS m (bif (grow1 ts u).2 == 0 then (grow1 ts u).1 else ts) rest)
    rw [← hf]
    cases (grow1 ts u).2 == 0 <;> rfl
theorem grow_run : ∀ a, (fun _ => true) a = true → ∃ f, M_grow f a = some ((fun l => grownS 30 [] l) a) := fun a _ => by
  obtain ⟨f, hf⟩ := grow_loop a [] [] 30 rfl (okN_mk (by simp) (by simp))
  exact ⟨f + 1, (M_grow_eq f _).trans hf⟩
noncomputable def E_grow : Ent := ⟨13, [.rd tSAc], [.o 60 4 tSPT], fun a => (fun _ => true : (List (SAc)) → Bool) a, fun a => (fun l => grownS 30 [] l : (List (SAc)) → (List (SPT))) a⟩
theorem E_grow_ok : E_grow.Ok Try.prog := fun a hp vs hv => (grow_run a hp).elim fun f h => fnX_ok (C := C_grow) (Lt := Lt_grow) (fn := Try.f13) (rs := [.tmp 2]) [.rd tSAc] [.o 60 4 tSPT] mixed es_grow Try.func13 rfl rfl rfl (by kernel_rfl) (by kernel_rfl) f h vs hv
end Go.AL
/-
  Layer 16: plain laws of valid page tables: Map keeps them valid, Unmap undoes it. By an AI agent.
-/
namespace Go.AL
open Go.Proofs
set_option linter.unusedVariables false
set_option linter.unusedSimpArgs false
/-! ### Valid page tables -/
def okmB (t : SPT) (m : SMp) : Bool := !decide (m.1 ≥ lim t.2.1) && (vidB m.2.2.2 && (palS m.2.1 && (!decide (m.2.2.1 < 0) && (!decide (m.2.2.1 > 3) && (decide (t.2.2.1 = 0) || decide (m.2.2.1 = 0))))))
theorem mapsOK_iff (t : SPT) : ∀ (r : List SMp) (last : Int), mapsOK t r last = true ↔ (∀ m ∈ r, last < m.1 ∧ okmB t m = true) ∧ r.Pairwise (fun a b => a.1 < b.1)
  | [], last => by simp [mapsOK]
  | m :: r, last => by
    have i := mapsOK_iff t r m.1
    have e : mapsOK t (m :: r) last = (!decide (m.1 ≤ last) && (okmB t m && mapsOK t r m.1)) := by
      simp only [mapsOK, okmB, Bool.and_assoc]
    rw [e, Bool.and_eq_true, Bool.and_eq_true, i]
    simp only [Bool.not_eq_true', decide_eq_false_iff_not, List.mem_cons, forall_eq_or_imp, List.pairwise_cons]
    constructor
    · rintro ⟨h1, h2, h3, h4⟩
      exact ⟨⟨⟨by omega, h2⟩, fun a ha => ⟨by have := (h3 a ha).1; omega, (h3 a ha).2⟩⟩, fun a ha => (h3 a ha).1, h4⟩
    · rintro ⟨⟨⟨h1, h2⟩, h3⟩, h4, h5⟩
      exact ⟨by omega, h2, fun a ha => ⟨h4 a ha, (h3 a ha).2⟩, h5⟩
structure VtB (t : SPT) : Prop where
  geo : (geoS t.2.1).2.2.2 = true
  lev : 0 ≤ t.2.2.1 ∧ t.2.2.1 < (geoS t.2.1).1
  base : palS t.1 = true
  ne : t.2.2.2 ≠ []
  ok : ∀ m ∈ t.2.2.2, -1 < m.1 ∧ okmB t m = true
  srt : t.2.2.2.Pairwise (fun a b => a.1 < b.1)
theorem tabB_iff (t : SPT) : tabB t = true ↔ VtB t := by
  simp only [tabB, Bool.and_eq_true, Bool.not_eq_true', decide_eq_false_iff_not, mapsOK_iff]
  constructor
  · rintro ⟨h1, h2, h3, h4, h5, h6, h7⟩
    exact ⟨h1, ⟨by omega, by omega⟩, h4, fun e => h5 (by rw [e]; rfl), h6, h7⟩
  · rintro ⟨h1, ⟨h2, h3⟩, h4, h5, h6, h7⟩
    exact ⟨h1, by omega, by omega, h4, fun e => h5 (List.eq_nil_of_length_eq_zero e), h6, h7⟩
structure Vts (ts : List SPT) : Prop where
  tab : ∀ t ∈ ts, VtB t
  srt : ts.Pairwise (fun a b => a.1 < b.1)
theorem tsL_iff : ∀ (r p : List SPT), p.Pairwise (fun a b => a.1 < b.1) → (tsL p r = true ↔ (∀ t ∈ r, VtB t) ∧ (p ++ r).Pairwise (fun a b => a.1 < b.1))
  | [], p, hp => by simp [tsL, hp]
  | u :: r, p, hp => by
    have key : (bif p.isEmpty then true else decide ((p.getLastD zPT).1 < u.1)) = true ↔ ∀ a ∈ p, a.1 < u.1 := by
      cases p with
      | nil => simp
      | cons a p =>
        obtain ⟨q, y, e⟩ : ∃ q y, a :: p = q ++ [y] := ⟨(a :: p).dropLast, (a :: p).getLast (by simp), (List.dropLast_concat_getLast _).symm⟩
        rw [e] at hp ⊢
        have e1 : (q ++ [y]).isEmpty = false := by cases q <;> rfl
        rw [e1, cond_false, decide_eq_true_eq]
        have e2 : (q ++ [y]).getLastD zPT = y := by simp
        rw [e2]
        constructor
        · intro h b hb
          rcases List.mem_append.1 hb with hb | hb
          · have := (List.pairwise_append.1 hp).2.2 b hb y (List.mem_singleton.2 rfl); omega
          · rw [List.mem_singleton.1 hb]; exact h
        · intro h; exact h y (by simp)
    simp only [tsL, Bool.and_eq_true, tabB_iff, key]
    constructor
    · rintro ⟨h1, h2, h3⟩
      have hp2 : (p ++ [u]).Pairwise (fun a b => a.1 < b.1) := List.pairwise_append.2 ⟨hp, by simp, fun a ha b hb => by rw [List.mem_singleton.1 hb]; exact h2 a ha⟩
      obtain ⟨g1, g2⟩ := (tsL_iff r (p ++ [u]) hp2).1 h3
      exact ⟨fun t ht => by
        rcases List.mem_cons.1 ht with rfl | ht
        · exact h1
        · exact g1 t ht, by simpa using g2⟩
    · rintro ⟨h1, h2⟩
      have e : p ++ u :: r = (p ++ [u]) ++ r := by simp
      rw [e] at h2
      have hp2 := (List.pairwise_append.1 h2).1
      exact ⟨h1 u (List.mem_cons_self ..), fun a ha => (List.pairwise_append.1 hp2).2.2 a ha u (List.mem_singleton.2 rfl), (tsL_iff r (p ++ [u]) hp2).2 ⟨fun t ht => h1 t (List.mem_cons_of_mem _ ht), h2⟩⟩
theorem tabsB_iff (ts : List SPT) : tabsB ts = true ↔ Vts ts := by
  unfold tabsB
  rw [tsL_iff ts [] .nil]
  exact ⟨fun h => ⟨h.1, h.2⟩, fun h => ⟨h.tab, h.srt⟩⟩
/-! ### Searching -/
theorem findI_hit {α : Type} {p : α → Bool} {x : α} (hx : p x = true) : ∀ {l r : List α} {k : Int}, (∀ y ∈ l, p y = false) → findI p (l ++ x :: r) k = k + ((l.length : Nat) : Int)
  | [], r, k, _ => by simp [findI, hx]
  | y :: l, r, k, h => by
    have h1 := h y (List.mem_cons_self ..)
    rw [List.cons_append, findI, h1, cond_false, findI_hit hx (fun z hz => h z (List.mem_cons_of_mem _ hz)), List.length_cons]; omega
theorem findI_miss {α : Type} {p : α → Bool} : ∀ {l : List α} {k : Int}, (∀ y ∈ l, p y = false) → findI p l k = -1
  | [], k, _ => rfl
  | y :: l, k, h => by
    rw [findI, h y (List.mem_cons_self ..), cond_false]; exact findI_miss (fun z hz => h z (List.mem_cons_of_mem _ hz))
theorem split_lt {α : Type} (f : α → Int) (b : Int) : ∀ {l : List α}, l.Pairwise (fun x y => f x < f y) → ∃ L R, l = L ++ R ∧ (∀ x ∈ L, f x < b) ∧ ∀ x ∈ R, b ≤ f x
  | [], _ => ⟨[], [], rfl, by simp, by simp⟩
  | x :: l, h => by
    rw [List.pairwise_cons] at h
    by_cases hx : f x < b
    · obtain ⟨L, R, rfl, h1, h2⟩ := split_lt f b h.2
      exact ⟨x :: L, R, rfl, fun y hy => by
        rcases List.mem_cons.1 hy with rfl | hy
        · exact hx
        · exact h1 y hy, h2⟩
    · exact ⟨[], x :: l, rfl, by simp, fun y hy => by
        rcases List.mem_cons.1 hy with rfl | hy
        · omega
        · have := h.1 y hy; omega⟩
theorem split_at {α : Type} (f : α → Int) (b : Int) {l : List α} (h : l.Pairwise (fun x y => f x < f y)) : (∃ L R, l = L ++ R ∧ (∀ x ∈ L, f x < b) ∧ ∀ x ∈ R, b < f x) ∨ ∃ L T R, l = L ++ T :: R ∧ f T = b ∧ (∀ x ∈ L, f x < b) ∧ ∀ x ∈ R, b < f x := by
  obtain ⟨L, R, rfl, h1, h2⟩ := split_lt f b h
  cases R with
  | nil => exact .inl ⟨L, [], rfl, h1, by simp⟩
  | cons T R =>
    have hs := (List.pairwise_append.1 h).2.1
    rw [List.pairwise_cons] at hs
    have hT := h2 T (List.mem_cons_self ..)
    by_cases e : f T = b
    · exact .inr ⟨L, T, R, rfl, e, h1, fun x hx => by have := hs.1 x hx; omega⟩
    · exact .inl ⟨L, T :: R, rfl, h1, fun x hx => by
        rcases List.mem_cons.1 hx with rfl | hx
        · omega
        · have := hs.1 x hx; omega⟩
theorem ftS_hit {L R : List SPT} {T : SPT} {b : Int} (hT : T.1 = b) (hL : ∀ x ∈ L, x.1 < b) : ftS (L ++ T :: R) b = ((L.length : Nat) : Int) := by
  unfold ftS
  rw [findI_hit (by simpa using hT) (fun y hy => decide_eq_false (by have := hL y hy; omega)), Int.zero_add]
theorem ftS_miss {L R : List SPT} {b : Int} (hL : ∀ x ∈ L, x.1 < b) (hR : ∀ x ∈ R, b < x.1) : ftS (L ++ R) b = -1 := by
  unfold ftS
  exact findI_miss fun y hy => decide_eq_false (by
    rcases List.mem_append.1 hy with hy | hy
    · have := hL y hy; omega
    · have := hR y hy; omega)
theorem getD_hit {α : Type} {L R : List α} {T z : α} : (L ++ T :: R).getD (((L.length : Nat) : Int)).toNat z = T := by rw [Int.toNat_natCast]; simp
theorem lowB_split {A B : List SMp} {i : Int} (hA : ∀ x ∈ A, x.1 < i) (hB : ∀ x ∈ B, i ≤ x.1) : lowB (A ++ B) i = A.length := by
  unfold lowB
  rw [List.takeWhile_append_of_pos (fun x hx => decide_eq_true (hA x hx))]
  cases B with
  | nil => simp
  | cons b B =>
    have := hB b (List.mem_cons_self ..)
    rw [List.takeWhile_cons_of_neg (by simp; omega)]; simp
theorem insAt_split {α : Type} {L R : List α} {x : α} : insAt (L ++ R) L.length x = L ++ x :: R := by
  unfold insAt; rw [List.take_left, List.drop_left]; simp
theorem delAt_split {α : Type} {L R : List α} {x : α} : delAt (L ++ x :: R) L.length = L ++ R := by
  unfold delAt
  rw [List.take_left, show L.length + 1 = (L ++ [x]).length by simp, show L ++ x :: R = (L ++ [x]) ++ R by simp, List.drop_left]
/-! ### Map -/
theorem mapS_rest {ts : List SPT} {c : SCp} {k : Int} {n : SNd} {mask : Int} (h1 : tabsB ts = true) (h2 : vnodB n = true) (h3 : 0 ≤ mask ∧ mask ≤ 7) (h4 : cidxS (c, k) = 0) :
    (kindS (ts, c) = false ∨ F_rmbl (c, ncap n) = false → mapS (ts, c, k, n, mask) = ([], 5)) ∧ (kindS (ts, c) = true → F_rmbl (c, ncap n) = true → mapS (ts, c, k, n, mask) =
      bif decide (ftS ts c.2.1 < 0) then (insAt ts (posI (findI (fun t => decide (t.1 > c.2.1)) ts 0) ts.length) (c.2.1, c.2.2.2.2.1, c.2.2.2.2.2.1, [mapM c k n mask]), 0) else
      bif decide (lowB (Ns.maps (ts.getD (ftS ts c.2.1).toNat zPT)) k < (Ns.maps (ts.getD (ftS ts c.2.1).toNat zPT)).length) && decide (((Ns.maps (ts.getD (ftS ts c.2.1).toNat zPT)).getD (lowB (Ns.maps (ts.getD (ftS ts c.2.1).toNat zPT)) k) zM).1 = k) then ([], 12) else
      (ts.set (ftS ts c.2.1).toNat ((ts.getD (ftS ts c.2.1).toNat zPT).1, (ts.getD (ftS ts c.2.1).toNat zPT).2.1, (ts.getD (ftS ts c.2.1).toNat zPT).2.2.1, insAt (Ns.maps (ts.getD (ftS ts c.2.1).toNat zPT)) (lowB (Ns.maps (ts.getD (ftS ts c.2.1).toNat zPT)) k) (mapM c k n mask)), 0)) := by
  have e3 : decide (mask < 0) = false := decide_eq_false (by omega)
  have e4 : decide (mask > 7) = false := decide_eq_false (by omega)
  have e5 : decide (cidxS (c, k) ≠ 0) = false := decide_eq_false (fun h => h h4)
  have k1 : kindS (ts, c) = true → decide (ctabS (ts, c) ≠ 0) = false := fun h => decide_eq_false (by unfold ctabS; rw [h]; simp)
  have k2 : kindS (ts, c) = false → ctabS (ts, c) = 5 := fun h => by unfold ctabS; rw [h]; rfl
  refine ⟨fun h => ?_, fun ha hb => ?_⟩
  · cases hk : kindS (ts, c)
    · have e6 : decide (ctabS (ts, c) ≠ 0) = true := decide_eq_true (by rw [k2 hk]; decide)
      simp only [mapS, h1, h2, e3, e4, e6, Bool.not_true, cond_false, cond_true, k2 hk]; rfl
    · rcases h with h | h
      · rw [hk] at h; cases h
      · simp only [mapS, h1, h2, e3, e4, k1 hk, h, Bool.not_true, cond_false, Bool.not_false, cond_true]
  · simp only [mapS, h1, h2, e3, e4, e5, k1 ha, hb, Bool.not_true, cond_false]
structure MapIn (ts r : List SPT) (c : SCp) (m : SMp) (L R : List SPT) (A B : List SMp) : Prop where
  res : r = L ++ (c.2.1, c.2.2.2.2.1, c.2.2.2.2.2.1, A ++ m :: B) :: R
  was : (ts = L ++ R ∧ A = [] ∧ B = []) ∨ (ts = L ++ (c.2.1, c.2.2.2.2.1, c.2.2.2.2.2.1, A ++ B) :: R ∧ A ++ B ≠ [])
  hL : ∀ x ∈ L, x.1 < c.2.1
  hR : ∀ x ∈ R, c.2.1 < x.1
  hA : ∀ x ∈ A, x.1 < m.1
  hB : ∀ x ∈ B, m.1 < x.1
theorem posI_split {L R : List SPT} {b : Int} (hL : ∀ x ∈ L, x.1 < b) (hR : ∀ x ∈ R, b < x.1) : posI (findI (fun t => decide (t.1 > b)) (L ++ R) 0) (L ++ R).length = L.length := by
  have hl : ∀ y ∈ L, (fun t : SPT => decide (t.1 > b)) y = false := fun y hy => decide_eq_false (by have := hL y hy; omega)
  cases R with
  | nil =>
    rw [List.append_nil, findI_miss hl]; rfl
  | cons T R =>
    rw [findI_hit (p := fun t : SPT => decide (t.1 > b)) (x := T) (decide_eq_true (hR T (List.mem_cons_self ..))) hl, Int.zero_add, posI, decide_eq_false (by omega), cond_false, Int.toNat_natCast]
theorem mapS_in {ts : List SPT} {c : SCp} {k : Int} {n : SNd} {mask : Int} (hv : Vts ts) (h2 : vnodB n = true) (h3 : 0 ≤ mask ∧ mask ≤ 7) (h4 : cidxS (c, k) = 0) :
    (mapS (ts, c, k, n, mask) = ([], 5) ∨ mapS (ts, c, k, n, mask) = ([], 12)) ∨
    (kindS (ts, c) = true ∧ F_rmbl (c, ncap n) = true ∧ ∃ r L R A B, mapS (ts, c, k, n, mask) = (r, 0) ∧ MapIn ts r c (mapM c k n mask) L R A B) := by
  have h1 := (tabsB_iff ts).2 hv
  obtain ⟨g1, g2⟩ := mapS_rest h1 h2 h3 h4
  cases hk : kindS (ts, c)
  · exact .inl (.inl (g1 (.inl hk)))
  cases hm : F_rmbl (c, ncap n)
  · exact .inl (.inl (g1 (.inr hm)))
  have g := g2 hk hm
  rcases split_at (fun t : SPT => t.1) c.2.1 hv.srt with ⟨L, R, e, hL, hR⟩ | ⟨L, T, R, e, hT, hL, hR⟩
  · refine .inr ⟨rfl, rfl, _, L, R, [], [], g.trans ?_, rfl, .inl ⟨e, rfl, rfl⟩, hL, hR, by simp, by simp⟩
    subst e
    rw [ftS_miss hL hR, decide_eq_true (by omega), cond_true, posI_split hL hR, insAt_split]; rfl
  · have e1 : kindS (ts, c) = true → T.2.1 = c.2.2.2.2.1 ∧ T.2.2.1 = c.2.2.2.2.2.1 := by
      intro hk
      simp only [kindS, Bool.and_eq_true, Bool.or_eq_true, decide_eq_true_eq] at hk
      subst e
      rw [ftS_hit hT hL, getD_hit] at hk
      rcases hk.2.2 with h | h
      · omega
      · exact h
    obtain ⟨ew, el⟩ := e1 hk
    have eT : ∀ M : List SMp, (T.1, T.2.1, T.2.2.1, M) = ((c.2.1, c.2.2.2.2.1, c.2.2.2.2.2.1, M) : SPT) := fun M => by rw [← ew, ← el]; exact congrArg (fun x => ((x, T.2.1, T.2.2.1, M) : SPT)) hT
    subst e
    rw [ftS_hit hT hL, getD_hit, decide_eq_false (by omega), cond_false, Int.toNat_natCast] at g
    have vT := hv.tab T (List.mem_append_right _ (List.mem_cons_self ..))
    rcases split_at (fun m : SMp => m.1) k vT.srt with ⟨A, B, e, hA, hB⟩ | ⟨A, M, B, e, hM, hA, hB⟩
    · have e2 : lowB (Ns.maps T) k = A.length := by
        show lowB T.2.2.2 k = A.length
        rw [e]; exact lowB_split hA fun x hx => by have := hB x hx; omega
      have e3 : (decide (A.length < (Ns.maps T).length) && decide (((Ns.maps T).getD A.length zM).1 = k)) = false := by
        show (decide (A.length < T.2.2.2.length) && decide ((T.2.2.2.getD A.length zM).1 = k)) = false
        rw [e]
        cases B with
        | nil => rw [decide_eq_false (by simp)]; rfl
        | cons b B =>
          have hb := hB b (List.mem_cons_self ..)
          rw [Bool.and_eq_false_iff]; right
          apply decide_eq_false
          rw [show (A ++ b :: B).getD A.length zM = b by simp]; omega
      rw [e2, e3, cond_false] at g
      refine .inr ⟨rfl, rfl, _, L, R, A, B, g.trans ?_, rfl, .inr ⟨?_, ?_⟩, hL, hR, hA, hB⟩
      · have e4 : insAt (Ns.maps T) A.length (mapM c k n mask) = A ++ mapM c k n mask :: B := by
          show insAt T.2.2.2 A.length _ = _
          rw [e, insAt_split]
        rw [e4, eT, List.set_append_right _ _ (Nat.le_refl _), Nat.sub_self]; rfl
      · rw [← eT, ← e]
      · rw [← e]; exact vT.ne
    · have e2 : lowB (Ns.maps T) k = A.length := by
        show lowB T.2.2.2 k = A.length
        rw [e]; exact lowB_split hA fun x hx => by
          rcases List.mem_cons.1 hx with rfl | hx
          · have : x.1 = k := hM
            omega
          · have := hB x hx; omega
      have e3 : (decide (A.length < (Ns.maps T).length) && decide (((Ns.maps T).getD A.length zM).1 = k)) = true := by
        show (decide (A.length < T.2.2.2.length) && decide ((T.2.2.2.getD A.length zM).1 = k)) = true
        rw [e, show (A ++ M :: B).getD A.length zM = M by simp, decide_eq_true (by simp), decide_eq_true hM]; rfl
      rw [e2, e3, cond_true] at g
      exact .inl (.inr g)
def capOK (c : SCp) : Bool := (geoS c.2.2.2.2.1).2.2.2 && (decide (0 ≤ c.2.2.2.2.2.1) && (decide (c.2.2.2.2.2.1 < (geoS c.2.2.2.2.1).1) && palS c.2.1))
def inOK (c : SCp) (m : SMp) : Bool := decide (-1 < m.1) && okmB (c.2.1, c.2.2.2.2.1, c.2.2.2.2.2.1, []) m
theorem pair_in {α : Type} {f : α → Int} {A B : List α} {m : α} (h : (A ++ B).Pairwise (fun a b => f a < f b)) (hA : ∀ x ∈ A, f x < f m) (hB : ∀ x ∈ B, f m < f x) : (A ++ m :: B).Pairwise (fun a b => f a < f b) := by
  obtain ⟨h1, h2, h3⟩ := List.pairwise_append.1 h
  refine List.pairwise_append.2 ⟨h1, List.pairwise_cons.2 ⟨hB, h2⟩, fun a ha b hb => ?_⟩
  rcases List.mem_cons.1 hb with rfl | hb
  · exact hA a ha
  · exact h3 a ha b hb
theorem MapIn.vts {ts r : List SPT} {c : SCp} {m : SMp} {L R : List SPT} {A B : List SMp} (h : MapIn ts r c m L R A B) (hv : Vts ts) (hc : capOK c = true) (hm : inOK c m = true) : Vts r := by
  simp only [capOK, inOK, Bool.and_eq_true, decide_eq_true_eq] at hc hm
  obtain ⟨c1, c2, c3, c4⟩ := hc
  have hLR : ∀ t, t ∈ L ∨ t ∈ R → t ∈ ts := fun t ht => by
    rcases h.was with ⟨e, -, -⟩ | ⟨e, -⟩ <;> rw [e] <;> rcases ht with ht | ht <;> simp [ht]
  have hAB : (∀ x ∈ A ++ B, -1 < x.1 ∧ okmB (c.2.1, c.2.2.2.2.1, c.2.2.2.2.2.1, []) x = true) ∧ (A ++ B).Pairwise (fun a b => a.1 < b.1) := by
    rcases h.was with ⟨e, rfl, rfl⟩ | ⟨e, -⟩
    · exact ⟨by simp, by simp⟩
    · have := hv.tab (c.2.1, c.2.2.2.2.1, c.2.2.2.2.2.1, A ++ B) (by rw [e]; simp)
      exact ⟨this.ok, this.srt⟩
  have hs : (L ++ R).Pairwise (fun a b => a.1 < b.1) := by
    rcases h.was with ⟨e, -, -⟩ | ⟨e, -⟩
    · rw [← e]; exact hv.srt
    · have := hv.srt
      rw [e] at this
      exact this.sublist (List.Sublist.append (List.Sublist.refl _) (List.sublist_cons_self _ _))
  constructor
  · intro t ht
    rw [h.res] at ht
    rcases List.mem_append.1 ht with ht | ht
    · exact hv.tab t (hLR t (.inl ht))
    · rcases List.mem_cons.1 ht with rfl | ht
      · refine ⟨c1, ⟨c2, c3⟩, c4, by simp, fun x hx => ?_, pair_in hAB.2 h.hA h.hB⟩
        rcases List.mem_append.1 hx with hx | hx
        · exact hAB.1 x (List.mem_append_left _ hx)
        · rcases List.mem_cons.1 hx with rfl | hx
          · exact hm
          · exact hAB.1 x (List.mem_append_right _ hx)
      · exact hv.tab t (hLR t (.inr ht))
  · rw [h.res]
    exact pair_in (f := fun t : SPT => t.1) hs h.hL h.hR
theorem MapIn.ft {ts r : List SPT} {c : SCp} {m : SMp} {L R : List SPT} {A B : List SMp} (h : MapIn ts r c m L R A B) : ftS r c.2.1 = ((L.length : Nat) : Int) := by
  rw [h.res]; exact ftS_hit rfl h.hL
theorem MapIn.kind {ts r : List SPT} {c : SCp} {m : SMp} {L R : List SPT} {A B : List SMp} (h : MapIn ts r c m L R A B) (hk : kindS (ts, c) = true) : kindS (r, c) = true := by
  simp only [kindS, Bool.and_eq_true, Bool.or_eq_true, decide_eq_true_eq] at hk ⊢
  refine ⟨hk.1, hk.2.1, .inr ?_⟩
  rw [h.ft, h.res, getD_hit]; exact ⟨rfl, rfl⟩
theorem MapIn.again {ts r : List SPT} {c : SCp} {k : Int} {n : SNd} {m : SMp} {L R : List SPT} {A B : List SMp} (h : MapIn ts r c m L R A B) (hr : Vts r) (h2 : vnodB n = true) (h4 : cidxS (c, k) = 0)
    (hk : kindS (ts, c) = true) (hm : F_rmbl (c, ncap n) = true) (hmk : m.1 = k) : mapS (r, c, k, n, 3) = ([], 12) := by
  have g := (mapS_rest ((tabsB_iff r).2 hr) h2 ⟨by omega, by omega⟩ h4 (mask := 3)).2 (h.kind hk) hm
  rw [h.ft, decide_eq_false (by omega), cond_false] at g
  have e : r.getD (((L.length : Nat) : Int)).toNat zPT = (c.2.1, c.2.2.2.2.1, c.2.2.2.2.2.1, A ++ m :: B) := by rw [h.res, getD_hit]
  rw [e] at g
  have e2 : lowB (A ++ m :: B) k = A.length := lowB_split (fun x hx => by have := h.hA x hx; omega) fun x hx => by
    rcases List.mem_cons.1 hx with rfl | hx
    · omega
    · have := h.hB x hx; omega
  have e3 : (decide (A.length < (A ++ m :: B).length) && decide (((A ++ m :: B).getD A.length zM).1 = k)) = true := by
    rw [show (A ++ m :: B).getD A.length zM = m by simp, decide_eq_true (by simp), decide_eq_true hmk]; rfl
  simp only [Ns.maps, e2, e3, cond_true] at g
  exact g
theorem MapIn.back {ts r : List SPT} {c : SCp} {k : Int} {m : SMp} {L R : List SPT} {A B : List SMp} (h : MapIn ts r c m L R A B) (hr : Vts r) (h4 : cidxS (c, k) = 0) (hk : kindS (ts, c) = true) (hmk : m.1 = k) : unmS (r, c, k) = (ts, mId m, 0) := by
  have e5 : decide (cidxS (c, k) ≠ 0) = false := decide_eq_false (fun h => h h4)
  have k1 : decide (ctabS (r, c) ≠ 0) = false := decide_eq_false (by unfold ctabS; rw [h.kind hk]; simp)
  have e : r.getD L.length zPT = (c.2.1, c.2.2.2.2.1, c.2.2.2.2.2.1, A ++ m :: B) := by rw [h.res]; simp
  have e6 : fmS (A ++ m :: B) k = ((A.length : Nat) : Int) := by
    unfold fmS
    rw [findI_hit (p := fun m : SMp => decide (m.1 = k)) (x := m) (decide_eq_true hmk) (fun y hy => decide_eq_false (by have := h.hA y hy; omega)), Int.zero_add]
  have e7 : r.take L.length = L := by rw [h.res, List.take_left]
  have e8 : r.drop (L.length + 1) = R := by
    rw [h.res, show L.length + 1 = (L ++ [((c.2.1, c.2.2.2.2.1, c.2.2.2.2.2.1, A ++ m :: B) : SPT)]).length by simp, show L ++ (c.2.1, c.2.2.2.2.1, c.2.2.2.2.2.1, A ++ m :: B) :: R = (L ++ [((c.2.1, c.2.2.2.2.1, c.2.2.2.2.2.1, A ++ m :: B) : SPT)]) ++ R by simp, List.drop_left]
  simp only [unmS, (tabsB_iff r).2 hr, h.ft, e, e5, k1, Ns.maps, e6, Bool.not_true, cond_false, Int.toNat_natCast, e7, e8]
  rw [decide_eq_false (by omega), decide_eq_false (by omega), cond_false, cond_false]
  simp only [unmE, Ns.maps, delAt_split, show (A ++ m :: B).getD A.length zM = m by simp]
  rcases h.was with ⟨e9, rfl, rfl⟩ | ⟨e9, hne⟩
  · rw [e9]; rfl
  · rw [decide_eq_false (fun h => hne (List.eq_nil_of_length_eq_zero h)), cond_false, e9]
end Go.AL
/-
  Layer 16: VspaceMapUnmap: what it computes. By an AI agent.
-/
namespace Go.AL
open Go.Proofs
set_option linter.unusedVariables false
set_option linter.unusedSimpArgs false
theorem place_idem (n : Int) {s : Int} (h : 0 < s) : place (place (n, s), s) = place (n, s) := by
  have h1 := place_lo n s
  have h2 := place_hi n h
  generalize place (n, s) = p at h1 h2
  show (bif decide (s < 1) then 0 else p % s) = p
  rw [decide_eq_false (by omega), cond_false, Int.emod_eq_of_lt h1 h2]
theorem mem4 {p : Int} (h0 : 0 ≤ p) (h1 : p < 4) : p ∈ ([0, 1, 2, 3] : List Int) := by
  simp only [List.mem_cons, List.not_mem_nil, or_false]; omega
theorem mem8 {p : Int} (h0 : 0 ≤ p) (h1 : p < 8) : p ∈ ([0, 1, 2, 3, 4, 5, 6, 7] : List Int) := by
  simp only [List.mem_cons, List.not_mem_nil, or_false]; omega
theorem tcap_pl (n : Int) : ∃ a ∈ ([0, 1, 2, 3] : List Int), tcapS n = tcapS a :=
  ⟨place (n, 4), mem4 (place_lo n 4) (place_hi n (by omega)), by unfold tcapS; rw [place_idem n (by omega)]⟩
theorem mnod_pl (n : Int) : ∃ a ∈ ([0, 1, 2, 3, 4, 5, 6, 7] : List Int), mnodS n = mnodS a :=
  ⟨place (n, 8), mem8 (place_lo n 8) (place_hi n (by omega)), by unfold mnodS; rw [place_idem n (by omega)]⟩
def restOK (c : SCp) (m : SMp) : Bool := vidB m.2.2.2 && (palS m.2.1 && (!decide (m.2.2.1 < 0) && (!decide (m.2.2.1 > 3) && (decide (c.2.2.2.2.2.1 = 0) || decide (m.2.2.1 = 0)))))
theorem fin_rest : ∀ a ∈ ([0, 1, 2, 3] : List Int), ∀ b ∈ ([0, 1, 2, 3, 4, 5, 6, 7] : List Int), ∀ m ∈ ([0, 1, 2, 3, 4, 5, 6, 7] : List Int), restOK (tcapS a) (mapM (tcapS a) 0 (mnodS b) m) = true := by decide +kernel
theorem fin_cap : ∀ a ∈ ([0, 1, 2, 3] : List Int), capOK (tcapS a) = true ∧ (tcapS a).2.2.2.2.1 = 32 := by decide +kernel
theorem fin_nod : ∀ b ∈ ([0, 1, 2, 3, 4, 5, 6, 7] : List Int), vnodB (mnodS b) = true := by decide +kernel
theorem tcap_ok (n : Int) : capOK (tcapS n) = true ∧ (tcapS n).2.2.2.2.1 = 32 := by
  obtain ⟨a, ha, e⟩ := tcap_pl n
  rw [e]; exact fin_cap a ha
theorem mnod_ok (n : Int) : vnodB (mnodS n) = true := by
  obtain ⟨a, ha, e⟩ := mnod_pl n
  rw [e]; exact fin_nod a ha
theorem tcap_idx (n : Int) {k : Int} (h0 : 0 ≤ k) (h1 : k < 1024) : cidxS (tcapS n, k) = 0 := by
  show (bif decide (k < 0) || decide (k ≥ lim (tcapS n).2.2.2.2.1) then (6 : Int) else 0) = 0
  rw [(tcap_ok n).2]
  show (bif decide (k < 0) || decide (k ≥ 1024) then (6 : Int) else 0) = 0
  rw [decide_eq_false (by omega), decide_eq_false (by omega)]; rfl
theorem in_ok (n p : Int) {k mask : Int} (h0 : 0 ≤ k) (h1 : k < 1024) (h2 : 0 ≤ mask) (h3 : mask < 8) : inOK (tcapS n) (mapM (tcapS n) k (mnodS p) mask) = true := by
  have hr : restOK (tcapS n) (mapM (tcapS n) 0 (mnodS p) mask) = true := by
    obtain ⟨a, ha, e⟩ := tcap_pl n
    obtain ⟨b, hb, e2⟩ := mnod_pl p
    rw [e, e2]; exact fin_rest a ha b hb mask (mem8 h2 h3)
  show (decide (-1 < k) && (!decide (k ≥ lim (tcapS n).2.2.2.2.1) && restOK (tcapS n) (mapM (tcapS n) 0 (mnodS p) mask))) = true
  rw [hr, (tcap_ok n).2]
  show (decide (-1 < k) && (!decide (k ≥ 1024) && true)) = true
  rw [decide_eq_true (by omega), decide_eq_false (by omega)]; rfl
theorem map_law {ts : List SPT} (hv : Vts ts) (n p : Int) {k mask : Int} (h0 : 0 ≤ k) (h1 : k < 1024) (h2 : 0 ≤ mask) (h3 : mask < 8) :
    (mapS (ts, tcapS n, k, mnodS p, mask) = ([], 5) ∨ mapS (ts, tcapS n, k, mnodS p, mask) = ([], 12)) ∨
    ∃ r, mapS (ts, tcapS n, k, mnodS p, mask) = (r, 0) ∧ Vts r ∧ mapS (r, tcapS n, k, mnodS p, 3) = ([], 12) ∧ unmS (r, tcapS n, k) = (ts, mId (mapM (tcapS n) k (mnodS p) mask), 0) := by
  have hi := tcap_idx n h0 h1
  rcases mapS_in hv (mnod_ok p) ⟨h2, by omega⟩ hi with h | ⟨hk, hm, r, L, R, A, B, e, hr⟩
  · exact .inl h
  · have hvr := hr.vts hv (tcap_ok n).1 (in_ok n p h0 h1 h2 h3)
    exact .inr ⟨r, e, hvr, hr.again hvr (mnod_ok p) hi hk hm rfl, hr.back hvr hi hk rfl⟩
theorem grow1_vts {ts : List SPT} (u : SAc) (h : Vts ts) : Vts (bif (grow1 ts u).2 == 0 then (grow1 ts u).1 else ts) := by
  rcases map_law h u.2.1 u.2.2.2.1 (place_lo u.2.2.1 6) (by have := place_hi u.2.2.1 (s := 6) (by omega); omega) (place_lo u.2.2.2.2 8) (place_hi u.2.2.2.2 (by omega)) with (e | e) | ⟨r, e, hr, -, -⟩
  · rw [grow1, e]; exact h
  · rw [grow1, e]; exact h
  · rw [grow1, e]; exact hr
theorem grownS_vts : ∀ (n : Nat) (ts : List SPT) (l : List SAc), Vts ts → Vts (grownS n ts l)
  | 0, ts, l, h => h
  | n + 1, ts, [], h => h
  | n + 1, ts, u :: r, h => grownS_vts n _ r (grow1_vts u h)
theorem grown_vts (l : List SAc) : Vts (grownS 30 [] l) := grownS_vts 30 [] l ⟨by simp, by simp⟩
theorem grown_okN (l : List SAc) : okN 30 (grownS 30 [] l) = true := grownS_okN 30 0 [] l (okN_mk (by simp) (by simp))
end Go.AL
/-
  Layer 16: walks, Sync and caches: models. By an AI agent.
-/
namespace Go.AL
open Go.Proofs
set_option linter.unusedVariables false
set_option linter.unusedSimpArgs false
def keepM (live : List SId) (m : SMp) : Bool := memD m.2.2.2 live
def putT (out : List SPT) (t : SPT) (k : List SMp) : List SPT := bif decide (((k.length : Nat) : Int) > 0) then out ++ [(t.1, t.2.1, t.2.2.1, k)] else out
def synL (live : List SId) (tables : List Int) : List SPT → List SPT → List SPT
  | out, [] => out
  | out, t :: r => bif !memD t.1 tables then synL live tables out r else synL live tables (putT out t (t.2.2.2.filter (keepM live))) r
def synS (a : List SPT × List SId × List Int) : List SPT := synL a.2.1 a.2.2 [] a.1
def synPre (a : List SPT × List SId × List Int) : Bool := okT a.1 && (len40n a.2.1 && len40n a.2.2)
theorem putT_len (out : List SPT) (t : SPT) (k : List SMp) : (putT out t k).length ≤ out.length + 1 := by
  unfold putT; cases decide (((k.length : Nat) : Int) > 0) <;> simp
noncomputable def C_syn : Cfg := ⟨Try.prog, [E_icon, E_scon], pmT [], 51, [], [(43, tSMp)]⟩
theorem es_syn : EsOk Try.prog [E_icon, E_scon] [] := es_cons E_icon_ok (es_cons E_scon_ok (es_nil))
def Lt_syn : Nat → LD := ldT [(0, ⟨[.rd 1 tSId, .rd 2 [.int .i64], .list 7 999 60 4 tSPT, .rd 13 tSPT, .c 14 (.int .i64), .c 15 (.int .i64)], [], 0⟩), (2, ⟨[.rd 1 tSId, .rd 2 [.int .i64], .list 7 999 60 4 tSPT, .box 9 9 60 4 tSPT, .list 10 998 64 6 tSMp, .rd 13 tSPT, .c 14 (.int .i64), .c 15 (.int .i64), .c 25 (.sl tSMp), .c 26 (.int .i64), .c 27 (.int .i64)], [], 0⟩)]
noncomputable def M_syn (f : Nat) (a : (List (SPT)) × (List (SId)) × (List (Int))) : Option ((List (SPT))) := (runX (C_syn) Lt_syn (Kret Try.prog [.tmp 6] [.o 60 4 tSPT]) f [.code (bodyOf Try.f25)] (initX [.rd tSPT, .rd tSId, .rd [.int .i64]] a) : Option (ResT [.o 60 4 tSPT]))
noncomputable def L_syn_0 (f : Nat) (x : (List (SId)) × (List (Int)) × (List (SPT)) × (List (SPT)) × Int × Int) : Option ((List (SPT))) := (runX (C_syn) Lt_syn (Kret Try.prog [.tmp 6] [.o 60 4 tSPT]) f (headOf Try.f25 0) ((Lt_syn 0).mk' x) : Option (ResT [.o 60 4 tSPT]))
noncomputable def L_syn_2 (f : Nat) (x : (List (SId)) × (List (Int)) × (List (SPT)) × SPT × (List (SMp)) × (List (SPT)) × Int × Int × (List (SMp)) × Int × Int) : Option ((List (SPT))) := (runX (C_syn) Lt_syn (Kret Try.prog [.tmp 6] [.o 60 4 tSPT]) f (headOf Try.f25 2) ((Lt_syn 2).mk' x) : Option (ResT [.o 60 4 tSPT]))
theorem M_syn_eq (f : Nat) (ts : List (SPT)) (live : List (SId)) (tables : List (Int)) : M_syn (f + 1) (ts, live, tables) =
    L_syn_0 f (live, tables, [], ts, (↑ts.length : Int), 0) := by kernel_rfl
theorem L_syn_0_eq (f : Nat) (live : List (SId)) (tables : List (Int)) (out : List (SPT)) (x13 : List (SPT)) (x14 : Int) (x15 : Int) : L_syn_0 (f + 1) (live, tables, out, x13, x14, x15) =
    bif decide (x15 < x14) then bif decide (0 ≤ x15) && decide (x15 < (↑x13.length : Int)) then bif len40n tables then bif !memD (x13.getD x15.toNat (0, 0, 0, [])).1 tables then L_syn_0 f (live, tables, out, x13, x14, IntKind.i64.wrap (x15 + 1)) else L_syn_2 f (live, tables, out, ((x13.getD x15.toNat (0, 0, 0, [])).1, (x13.getD x15.toNat (0, 0, 0, [])).2.1, (x13.getD x15.toNat (0, 0, 0, [])).2.2.1, (x13.getD x15.toNat (0, 0, 0, [])).2.2.2), [], x13, x14, x15, (x13.getD x15.toNat (0, 0, 0, [])).2.2.2, (↑(List.length (x13.getD x15.toNat (0, 0, 0, [])).2.2.2) : Int), 0) else none else none else some out := by kernel_rfl
theorem L_syn_2_eq (f : Nat) (live : List (SId)) (tables : List (Int)) (out : List (SPT)) (t : SPT) (kept : List (SMp)) (x13 : List (SPT)) (x14 : Int) (x15 : Int) (x25 : List (SMp)) (x26 : Int) (x27 : Int) : L_syn_2 (f + 1) (live, tables, out, t, kept, x13, x14, x15, x25, x26, x27) =
    bif decide (x27 < x26) then bif decide (0 ≤ x27) && decide (x27 < (↑x25.length : Int)) then bif len40n live then bif memD (x25.getD x27.toNat (0, 0, 0, 0, 0, 0)).2.2.2 live then bif decide ((kept.length + [x25.getD x27.toNat (0, 0, 0, 0, 0, 0)].length) * 48 ≤ 140737488355328) then L_syn_2 f (live, tables, out, t, kept ++ [x25.getD x27.toNat (0, 0, 0, 0, 0, 0)], x13, x14, x15, x25, x26, IntKind.i64.wrap (x27 + 1)) else none else L_syn_2 f (live, tables, out, t, kept, x13, x14, x15, x25, x26, IntKind.i64.wrap (x27 + 1)) else none else none else bif decide ((↑kept.length : Int) > 0) then bif decide ((out.length + [(t.1, t.2.1, t.2.2.1, kept)].length) * 48 ≤ 140737488355328) then L_syn_0 f (live, tables, out ++ [(t.1, t.2.1, t.2.2.1, kept)], x13, x14, IntKind.i64.wrap (x15 + 1)) else none else L_syn_0 f (live, tables, out, x13, x14, IntKind.i64.wrap (x15 + 1)) := by kernel_rfl
noncomputable def F_syn_2 (K_0 : ((List (SId)) × (List (Int)) × (List (SPT)) × (List (SPT)) × Int × Nat) → (List (SPT))) : List (SMp) → ((List (SId)) × (List (Int)) × (List (SPT)) × SPT × (List (SMp)) × (List (SPT)) × Int × Nat × (List (SMp)) × Int × Nat) → (List (SPT))
  | [], (live, tables, out, t, kept, x13, x14, x15, x25, x26, x27) => bif decide ((↑kept.length : Int) > 0) then K_0 (live, tables, out ++ [(t.1, t.2.1, t.2.2.1, kept)], x13, x14, x15 + 1) else K_0 (live, tables, out, x13, x14, x15 + 1)
  | uu :: rest, (live, tables, out, t, kept, x13, x14, x15, x25, x26, x27) => bif memD uu.2.2.2 live then F_syn_2 K_0 rest (live, tables, out, t, kept ++ [uu], x13, x14, x15, x25, x26, x27 + 1) else F_syn_2 K_0 rest (live, tables, out, t, kept, x13, x14, x15, x25, x26, x27 + 1)
noncomputable def P_syn_2 (KP_0 : ((List (SId)) × (List (Int)) × (List (SPT)) × (List (SPT)) × Int × Nat) → Bool) : List (SMp) → ((List (SId)) × (List (Int)) × (List (SPT)) × SPT × (List (SMp)) × (List (SPT)) × Int × Nat × (List (SMp)) × Int × Nat) → Bool
  | [], (live, tables, out, t, kept, x13, x14, x15, x25, x26, x27) => bif decide ((↑kept.length : Int) > 0) then decide ((out.length + [(t.1, t.2.1, t.2.2.1, kept)].length) * 48 ≤ 140737488355328) && KP_0 (live, tables, out ++ [(t.1, t.2.1, t.2.2.1, kept)], x13, x14, x15 + 1) else KP_0 (live, tables, out, x13, x14, x15 + 1)
  | uu :: rest, (live, tables, out, t, kept, x13, x14, x15, x25, x26, x27) => len40n live && bif memD uu.2.2.2 live then decide ((kept.length + [uu].length) * 48 ≤ 140737488355328) && P_syn_2 KP_0 rest (live, tables, out, t, kept ++ [uu], x13, x14, x15, x25, x26, x27 + 1) else P_syn_2 KP_0 rest (live, tables, out, t, kept, x13, x14, x15, x25, x26, x27 + 1)
theorem A_syn_2 {K_0 : ((List (SId)) × (List (Int)) × (List (SPT)) × (List (SPT)) × Int × Nat) → (List (SPT))} {KP_0 : ((List (SId)) × (List (Int)) × (List (SPT)) × (List (SPT)) × Int × Nat) → Bool} {rest_0 : List (SPT)} (hK_0 : ∀ (live : List (SId)) (tables : List (Int)) (out : List (SPT)) (x13 : List (SPT)) (x14 : Int) (x15 : Nat) (hd : x13.drop x15 = rest_0) (hn : x14 = ((x13.length : Nat) : Int)) (hl : x13.length ≤ 1099511627776), Rns (fun f => L_syn_0 f (live, tables, out, x13, x14, ((x15 : Nat) : Int))) (KP_0 (live, tables, out, x13, x14, x15)) (K_0 (live, tables, out, x13, x14, x15))) : ∀ (rest : List (SMp)) (live : List (SId)) (tables : List (Int)) (out : List (SPT)) (t : SPT) (kept : List (SMp)) (x13 : List (SPT)) (x14 : Int) (x15 : Nat) (x25 : List (SMp)) (x26 : Int) (x27 : Nat) (hd : x25.drop x27 = rest) (hn : x26 = ((x25.length : Nat) : Int)) (hl : x25.length ≤ 1099511627776) (hd_0 : x13.drop (x15 + 1) = rest_0) (hn_0 : x14 = ((x13.length : Nat) : Int)) (hl_0 : x13.length ≤ 1099511627776) (ht_0 : x15 < x13.length), Rns (fun f => L_syn_2 f (live, tables, out, t, kept, x13, x14, ((x15 : Nat) : Int), x25, x26, ((x27 : Nat) : Int))) (P_syn_2 KP_0 rest (live, tables, out, t, kept, x13, x14, x15, x25, x26, x27)) (F_syn_2 K_0 rest (live, tables, out, t, kept, x13, x14, x15, x25, x26, x27))
  | [], live, tables, out, t, kept, x13, x14, x15, x25, x26, x27, hd, hn, hl, hd_0, hn_0, hl_0, ht_0 => ev_step (T := fun f => bif decide ((↑kept.length : Int) > 0) then bif decide ((out.length + [(t.1, t.2.1, t.2.2.1, kept)].length) * 48 ≤ 140737488355328) then L_syn_0 f (live, tables, out ++ [(t.1, t.2.1, t.2.2.1, kept)], x13, x14, (↑(x15 + 1) : Int)) else none else L_syn_0 f (live, tables, out, x13, x14, (↑(x15 + 1) : Int))) (fun f => (L_syn_2_eq f _ _ _ _ _ _ _ _ _ _ _).trans (by simp only [ge_decn hn (drop_ge hd), ge0, Bool.and_self, Bool.true_and, cond_true, cond_false, List.length_set, wrap_succ ht_0 hl_0, lt_dec ht_0, getD_set ht_0, lt_decn hn_0 ht_0] <;> rfl)) (ev_bif (ev_chk (hK_0 _ _ _ _ _ _ (by first | exact hd_0 | exact drop_setS hd_0 | exact drop_setS (drop_setS hd_0)) (by first | exact hn_0 | simpa using hn_0) (by first | exact hl_0 | simpa using hl_0))) (hK_0 _ _ _ _ _ _ (by first | exact hd_0 | exact drop_setS hd_0 | exact drop_setS (drop_setS hd_0)) (by first | exact hn_0 | simpa using hn_0) (by first | exact hl_0 | simpa using hl_0)))
  | uu :: rest, live, tables, out, t, kept, x13, x14, x15, x25, x26, x27, hd, hn, hl, hd_0, hn_0, hl_0, ht_0 => ev_step (T := fun f => bif len40n live then bif memD uu.2.2.2 live then bif decide ((kept.length + [uu].length) * 48 ≤ 140737488355328) then L_syn_2 f (live, tables, out, t, kept ++ [uu], x13, x14, (↑x15 : Int), x25, x26, (↑(x27 + 1) : Int)) else none else L_syn_2 f (live, tables, out, t, kept, x13, x14, (↑x15 : Int), x25, x26, (↑(x27 + 1) : Int)) else none) (fun f => (L_syn_2_eq f _ _ _ _ _ _ _ _ _ _ _).trans (by simp only [lt_decn hn (drop_lt hd), lt_dec (drop_lt hd), drop_get hd, wrap_succ (drop_lt hd) hl, getD_set (drop_lt hd), ge0, Bool.and_self, Bool.true_and, cond_true, cond_false, List.length_set, wrap_succ ht_0 hl_0, lt_dec ht_0, getD_set ht_0, lt_decn hn_0 ht_0] <;> rfl)) (ev_chk (ev_bif (ev_chk (A_syn_2 hK_0 rest _ _ _ _ _ _ _ _ _ _ _ (by first | exact drop_succ hd | exact drop_set hd | exact drop_setS (drop_set hd)) (by first | exact hn | simpa using hn) (by first | exact hl | simpa using hl) (by first | exact hd_0 | exact drop_setS hd_0 | exact drop_setS (drop_setS hd_0)) (by first | exact hn_0 | simpa using hn_0) (by first | exact hl_0 | simpa using hl_0) (by first | exact ht_0 | simpa using ht_0))) (A_syn_2 hK_0 rest _ _ _ _ _ _ _ _ _ _ _ (by first | exact drop_succ hd | exact drop_set hd | exact drop_setS (drop_set hd)) (by first | exact hn | simpa using hn) (by first | exact hl | simpa using hl) (by first | exact hd_0 | exact drop_setS hd_0 | exact drop_setS (drop_setS hd_0)) (by first | exact hn_0 | simpa using hn_0) (by first | exact hl_0 | simpa using hl_0) (by first | exact ht_0 | simpa using ht_0))))
noncomputable def F_syn_0 : List (SPT) → ((List (SId)) × (List (Int)) × (List (SPT)) × (List (SPT)) × Int × Nat) → (List (SPT))
  | [], (live, tables, out, x13, x14, x15) => out
  | uu :: rest, (live, tables, out, x13, x14, x15) => bif !memD uu.1 tables then F_syn_0 rest (live, tables, out, x13, x14, x15 + 1) else F_syn_2 (F_syn_0 rest) uu.2.2.2 (live, tables, out, (uu.1, uu.2.1, uu.2.2.1, uu.2.2.2), [], x13, x14, x15, uu.2.2.2, (↑(List.length uu.2.2.2) : Int), 0)
noncomputable def P_syn_0 : List (SPT) → ((List (SId)) × (List (Int)) × (List (SPT)) × (List (SPT)) × Int × Nat) → Bool
  | [], (live, tables, out, x13, x14, x15) => true
  | uu :: rest, (live, tables, out, x13, x14, x15) => len40n tables && bif !memD uu.1 tables then P_syn_0 rest (live, tables, out, x13, x14, x15 + 1) else decide (List.length uu.2.2.2 ≤ 1099511627776) && P_syn_2 (P_syn_0 rest) uu.2.2.2 (live, tables, out, (uu.1, uu.2.1, uu.2.2.1, uu.2.2.2), [], x13, x14, x15, uu.2.2.2, (↑(List.length uu.2.2.2) : Int), 0)
theorem A_syn_0 : ∀ (rest : List (SPT)) (live : List (SId)) (tables : List (Int)) (out : List (SPT)) (x13 : List (SPT)) (x14 : Int) (x15 : Nat) (hd : x13.drop x15 = rest) (hn : x14 = ((x13.length : Nat) : Int)) (hl : x13.length ≤ 1099511627776), Rns (fun f => L_syn_0 f (live, tables, out, x13, x14, ((x15 : Nat) : Int))) (P_syn_0 rest (live, tables, out, x13, x14, x15)) (F_syn_0 rest (live, tables, out, x13, x14, x15))
  | [], live, tables, out, x13, x14, x15, hd, hn, hl => ev_step (T := fun f => some out) (fun f => (L_syn_0_eq f _ _ _ _ _ _).trans (by simp only [ge_decn hn (drop_ge hd), ge0, Bool.and_self, Bool.true_and, cond_true, cond_false, List.length_set] <;> rfl)) ev_some
  | uu :: rest, live, tables, out, x13, x14, x15, hd, hn, hl => ev_step (T := fun f => bif len40n tables then bif !memD uu.1 tables then L_syn_0 f (live, tables, out, x13, x14, (↑(x15 + 1) : Int)) else L_syn_2 f (live, tables, out, (uu.1, uu.2.1, uu.2.2.1, uu.2.2.2), [], x13, x14, (↑x15 : Int), uu.2.2.2, (↑(List.length uu.2.2.2) : Int), 0) else none) (fun f => (L_syn_0_eq f _ _ _ _ _ _).trans (by simp only [lt_decn hn (drop_lt hd), lt_dec (drop_lt hd), drop_get hd, wrap_succ (drop_lt hd) hl, getD_set (drop_lt hd), ge0, Bool.and_self, Bool.true_and, cond_true, cond_false, List.length_set] <;> rfl)) (ev_chk (ev_bif (A_syn_0 rest _ _ _ _ _ _ (by first | exact drop_succ hd | exact drop_set hd | exact drop_setS (drop_set hd)) (by first | exact hn | simpa using hn) (by first | exact hl | simpa using hl)) (ev_and fun hh => A_syn_2 (A_syn_0 rest) _ _ _ _ _ _ _ _ _ _ _ _ rfl (by first | rfl | simp) (of_decide_eq_true hh) (by first | exact drop_succ hd | exact drop_set hd | exact drop_setS (drop_set hd)) (by first | exact hn | simpa using hn) (by first | exact hl | simpa using hl) (by first | exact drop_lt hd | simpa using drop_lt hd))))
noncomputable def F_syn : ((List (SPT)) × (List (SId)) × (List (Int))) → (List (SPT))
  | (ts, live, tables) => F_syn_0 ts (live, tables, [], ts, (↑ts.length : Int), 0)
noncomputable def P_syn : ((List (SPT)) × (List (SId)) × (List (Int))) → Bool
  | (ts, live, tables) => decide (ts.length ≤ 1099511627776) && P_syn_0 ts (live, tables, [], ts, (↑ts.length : Int), 0)
theorem syn_auto : ∀ a : (List (SPT)) × (List (SId)) × (List (Int)), Rns (fun f => M_syn f a) (P_syn a) (F_syn a)
  | (ts, live, tables) => ev_step (fun f => M_syn_eq f _ _ _) (ev_and fun hh => A_syn_0 _ _ _ _ _ _ _ rfl (by first | rfl | simp) (of_decide_eq_true hh))
theorem syn_2 {live : List SId} (hlive : len40n live = true) (K : (List SId × List Int × List SPT × List SPT × Int × Nat) → List SPT) (KP : (List SId × List Int × List SPT × List SPT × Int × Nat) → Bool) (tables : List Int) (out : List SPT) (t : SPT) (x13 : List SPT) (x14 : Int) (x15 : Nat) (x25 : List SMp) (x26 : Int) (ho : out.length ≤ 68719476736) : ∀ (r kept : List SMp) (x27 : Nat), kept.length + r.length ≤ 68719476736 →
    F_syn_2 K r (live, tables, out, t, kept, x13, x14, x15, x25, x26, x27) = K (live, tables, putT out t (kept ++ r.filter (keepM live)), x13, x14, x15 + 1) ∧ (KP (live, tables, putT out t (kept ++ r.filter (keepM live)), x13, x14, x15 + 1) = true → P_syn_2 KP r (live, tables, out, t, kept, x13, x14, x15, x25, x26, x27) = true)
  | [], kept, x27, h => by
    simp only [F_syn_2, P_syn_2, List.filter_nil, List.append_nil, putT]
    cases decide (((kept.length : Nat) : Int) > 0)
    · exact ⟨rfl, fun h => h⟩
    · refine ⟨rfl, fun h => ?_⟩
      have h : KP (live, tables, out ++ [(t.1, t.2.1, t.2.2.1, kept)], x13, x14, x15 + 1) = true := h
      simp only [cond_true, h, Bool.and_true, decide_eq_true_eq, List.length_singleton]; omega
  | u :: r, kept, x27, h => by
    simp only [List.length_cons] at h
    obtain ⟨i1, i2⟩ := syn_2 hlive K KP tables out t x13 x14 x15 x25 x26 ho r (kept ++ [u]) (x27 + 1) (by simp; omega)
    obtain ⟨j1, j2⟩ := syn_2 hlive K KP tables out t x13 x14 x15 x25 x26 ho r kept (x27 + 1) (by omega)
    have e : decide ((kept.length + [u].length) * 48 ≤ 140737488355328) = true := decide_eq_true (by simp only [List.length_singleton]; omega)
    simp only [F_syn_2, P_syn_2, hlive, e, Bool.true_and, List.filter_cons]
    cases hk : memD u.2.2.2 live
    · rw [show keepM live u = false from hk]
      exact ⟨j1, j2⟩
    · rw [show keepM live u = true from hk]
      simp only [List.append_assoc, List.singleton_append] at i1 i2
      exact ⟨i1, i2⟩
theorem syn_0 {live : List SId} {tables : List Int} (h1 : len40n live = true) (h2 : len40n tables = true) (x13 : List SPT) (x14 : Int) : ∀ (r out : List SPT) (k : Nat), (∀ t ∈ r, t.2.2.2.length ≤ 68719476736) → out.length + r.length ≤ 68719476736 → F_syn_0 r (live, tables, out, x13, x14, k) = synL live tables out r ∧ P_syn_0 r (live, tables, out, x13, x14, k) = true
  | [], out, k, h, hl => ⟨rfl, rfl⟩
  | u :: r, out, k, h, hl => by
    simp only [List.length_cons] at hl
    have hu := h u (List.mem_cons_self ..)
    have hp := putT_len out u (u.2.2.2.filter (keepM live))
    obtain ⟨i1, i2⟩ := syn_0 h1 h2 x13 x14 r (putT out u (u.2.2.2.filter (keepM live))) (k + 1) (fun e he => h e (List.mem_cons_of_mem _ he)) (by omega)
    obtain ⟨j1, j2⟩ := syn_0 h1 h2 x13 x14 r out (k + 1) (fun e he => h e (List.mem_cons_of_mem _ he)) (by omega)
    obtain ⟨k1, k2⟩ := syn_2 h1 (F_syn_0 r) (P_syn_0 r) tables out (u.1, u.2.1, u.2.2.1, u.2.2.2) x13 x14 k u.2.2.2 ((List.length u.2.2.2 : Nat) : Int) (by omega) u.2.2.2 [] 0 (by simp; omega)
    simp only [F_syn_0, P_syn_0, h2, k1, j1, j2, Bool.true_and, synL, decide_eq_true (show List.length u.2.2.2 ≤ 1099511627776 by omega)]
    cases memD u.1 tables
    · exact ⟨rfl, rfl⟩
    · exact ⟨i1, k2 i2⟩
theorem syn_both : ∀ a : List SPT × List SId × List Int, synPre a = true → P_syn a = true ∧ F_syn a = synS a := by
  rintro ⟨ts, live, tables⟩ h
  obtain ⟨h0, h12⟩ := Bool.and_eq_true_iff.1 h
  obtain ⟨h1, h2⟩ := Bool.and_eq_true_iff.1 h12
  have hl := okT_len h0
  obtain ⟨i1, i2⟩ := syn_0 h1 h2 ts ((ts.length : Nat) : Int) ts [] 0 (fun t ht => okT_mem h0 ht) (by simpa using hl)
  simp only [P_syn, F_syn, i1, i2, Bool.and_true]
  exact ⟨decide_eq_true (by have : ts.length ≤ 68719476736 := hl; omega), rfl⟩
theorem syn_P : ∀ a : List SPT × List SId × List Int, synPre a = true → P_syn a = true := fun a h => (syn_both a h).1
theorem syn_F : ∀ a : List SPT × List SId × List Int, synPre a = true → F_syn a = synS a := fun a h => (syn_both a h).2
theorem syn_run : ∀ a, (synPre : (List (SPT)) × (List (SId)) × (List (Int)) → Bool) a = true → ∃ f, M_syn f a = some ((synS : (List (SPT)) × (List (SId)) × (List (Int)) → (List (SPT))) a) := fun a h => by have h1 := syn_auto a (syn_P a h); rw [syn_F a h] at h1; exact h1
noncomputable def E_syn : Ent := ⟨25, [.rd tSPT, .rd tSId, .rd [.int .i64]], [.o 60 4 tSPT], fun a => (synPre : (List (SPT)) × (List (SId)) × (List (Int)) → Bool) a, fun a => (synS : (List (SPT)) × (List (SId)) × (List (Int)) → (List (SPT))) a⟩
theorem E_syn_ok : E_syn.Ok Try.prog := fun a hp vs hv => (syn_run a hp).elim fun f h => fnX_ok (C := C_syn) (Lt := Lt_syn) (fn := Try.f25) (rs := [.tmp 6]) [.rd tSPT, .rd tSId, .rd [.int .i64]] [.o 60 4 tSPT] mixed es_syn Try.func25 rfl rfl rfl (by kernel_rfl) (by kernel_rfl) f h vs hv
end Go.AL
/-
  Layer 16: VspaceSync: what it computes. By an AI agent.
-/
namespace Go.AL
open Go.Proofs
set_option linter.unusedVariables false
set_option linter.unusedSimpArgs false
noncomputable def C_vsy : Cfg := ⟨Try.prog, [E_awk, E_grow, E_mnod, E_tcap, E_rctb, E_syn, E_ftab, E_hasInt, E_fmap, E_hasId, E_vval, E_stab], pmT [(25, ([(0, []), (1, []), (2, []), (3, []), (4, []), (5, []), (6, []), (7, []), (8, []), (9, []), (10, []), (11, []), (12, []), (13, []), (14, [])], [(17, 17), (102, 115)])), (26, ([(0, []), (1, []), (2, []), (3, []), (4, []), (5, []), (6, []), (7, []), (8, []), (9, []), (10, []), (11, []), (12, []), (13, []), (14, []), (15, []), (16, []), (17, []), (18, []), (19, []), (20, []), (21, []), (22, []), (23, []), (24, []), (25, []), (26, []), (27, []), (28, []), (29, []), (30, []), (31, []), (32, []), (33, []), (34, [])], [(116, 150)]))], 210, [], []⟩
theorem es_vsy : EsOk Try.prog [E_awk, E_grow, E_mnod, E_tcap, E_rctb, E_syn, E_ftab, E_hasInt, E_fmap, E_hasId, E_vval, E_stab] [] := es_cons E_awk_ok (es_cons E_grow_ok (es_cons E_mnod_ok (es_cons E_tcap_ok (es_cons E_rctb_ok (es_cons E_syn_ok (es_cons E_ftab_ok (es_cons E_hasInt_ok (es_cons E_fmap_ok (es_cons E_hasId_ok (es_cons E_vval_ok (es_cons E_stab_ok (es_nil))))))))))))
def Lt_vsy : Nat → LD := ldT [(0, ⟨[.rd 1 [.int .i64], .rd 2 [.int .i64], .list 7 999 60 4 tSPT, .list 8 998 39 3 tSId, .c 9 (.int .i64)], [], 0⟩), (2, ⟨[.rd 2 [.int .i64], .list 7 999 60 4 tSPT, .list 8 998 39 3 tSId, .list 10 997 3 1 [.int .i64], .c 11 (.int .i64)], [], 0⟩), (4, ⟨[.list 7 999 60 4 tSPT, .list 8 998 39 3 tSId, .list 10 997 3 1 [.int .i64], .list 12 996 60 4 tSPT, .c 13 (.int .i64), .c 14 (.int .i64)], [], 0⟩), (6, ⟨[.list 7 999 60 4 tSPT, .list 8 998 39 3 tSId, .list 10 997 3 1 [.int .i64], .list 12 996 60 4 tSPT, .c 13 (.int .i64), .c 14 (.int .i64), .c 15 (.int .i64), .c 16 (.int .i64)], [], 0⟩), (8, ⟨[.list 7 999 60 4 tSPT, .list 8 998 39 3 tSId, .list 10 997 3 1 [.int .i64], .list 12 996 60 4 tSPT, .c 13 (.int .i64), .c 18 (.int .i64), .c 19 (.int .i64)], [], 0⟩), (10, ⟨[.list 7 999 60 4 tSPT, .list 8 998 39 3 tSId, .list 10 997 3 1 [.int .i64], .list 12 996 60 4 tSPT, .c 13 (.int .i64), .c 18 (.int .i64), .c 19 (.int .i64), .c 20 (.int .i64)], [], 0⟩)]
noncomputable def M_vsy (f : Nat) (a : (List (SAc)) × (List (Int)) × (List (Int))) : Option (Bool) := (runX (C_vsy) Lt_vsy (Kret Try.prog [.tmp 6] [.v (.bool)]) f [.code (bodyOf Try.f6)] (initX [.rd tSAc, .rd [.int .i64], .rd [.int .i64]] a) : Option (ResT [.v (.bool)]))
noncomputable def L_vsy_0 (f : Nat) (x : (List (Int)) × (List (Int)) × (List (SPT)) × (List (SId)) × Int) : Option (Bool) := (runX (C_vsy) Lt_vsy (Kret Try.prog [.tmp 6] [.v (.bool)]) f (headOf Try.f6 0) ((Lt_vsy 0).mk' x) : Option (ResT [.v (.bool)]))
noncomputable def L_vsy_2 (f : Nat) (x : (List (Int)) × (List (SPT)) × (List (SId)) × (List (Int)) × Int) : Option (Bool) := (runX (C_vsy) Lt_vsy (Kret Try.prog [.tmp 6] [.v (.bool)]) f (headOf Try.f6 2) ((Lt_vsy 2).mk' x) : Option (ResT [.v (.bool)]))
noncomputable def L_vsy_4 (f : Nat) (x : (List (SPT)) × (List (SId)) × (List (Int)) × (List (SPT)) × Int × Int) : Option (Bool) := (runX (C_vsy) Lt_vsy (Kret Try.prog [.tmp 6] [.v (.bool)]) f (headOf Try.f6 4) ((Lt_vsy 4).mk' x) : Option (ResT [.v (.bool)]))
noncomputable def L_vsy_6 (f : Nat) (x : (List (SPT)) × (List (SId)) × (List (Int)) × (List (SPT)) × Int × Int × Int × Int) : Option (Bool) := (runX (C_vsy) Lt_vsy (Kret Try.prog [.tmp 6] [.v (.bool)]) f (headOf Try.f6 6) ((Lt_vsy 6).mk' x) : Option (ResT [.v (.bool)]))
noncomputable def L_vsy_8 (f : Nat) (x : (List (SPT)) × (List (SId)) × (List (Int)) × (List (SPT)) × Int × Int × Int) : Option (Bool) := (runX (C_vsy) Lt_vsy (Kret Try.prog [.tmp 6] [.v (.bool)]) f (headOf Try.f6 8) ((Lt_vsy 8).mk' x) : Option (ResT [.v (.bool)]))
noncomputable def L_vsy_10 (f : Nat) (x : (List (SPT)) × (List (SId)) × (List (Int)) × (List (SPT)) × Int × Int × Int × Int) : Option (Bool) := (runX (C_vsy) Lt_vsy (Kret Try.prog [.tmp 6] [.v (.bool)]) f (headOf Try.f6 10) ((Lt_vsy 10).mk' x) : Option (ResT [.v (.bool)]))
theorem M_vsy_eq (f : Nat) (l : List (SAc)) (ids : List (Int)) (bases : List (Int)) : M_vsy (f + 1) (l, ids, bases) =
    bif decide ((↑ids.length : Int) > 30) then some true else bif decide ((↑bases.length : Int) > 30) then some true else L_vsy_0 f (ids, bases, grownS 30 [] l, [], 0) := by kernel_rfl
theorem L_vsy_0_eq (f : Nat) (ids : List (Int)) (bases : List (Int)) (ts : List (SPT)) (live : List (SId)) (i : Int) : L_vsy_0 (f + 1) (ids, bases, ts, live, i) =
    bif decide (i < (↑ids.length : Int)) then bif decide (0 ≤ i) && decide (i < (↑ids.length : Int)) then bif decide ((live.length + [((mnodS (ids.getD i.toNat 0)).1, (mnodS (ids.getD i.toNat 0)).2.1, (mnodS (ids.getD i.toNat 0)).2.2.1)].length) * 24 ≤ 140737488355328) then L_vsy_0 f (ids, bases, ts, live ++ [((mnodS (ids.getD i.toNat 0)).1, (mnodS (ids.getD i.toNat 0)).2.1, (mnodS (ids.getD i.toNat 0)).2.2.1)], IntKind.i64.wrap (i + 1)) else none else none else L_vsy_2 f (bases, ts, live, [], 0) := by kernel_rfl
theorem L_vsy_2_eq (f : Nat) (bases : List (Int)) (ts : List (SPT)) (live : List (SId)) (tables : List (Int)) (i : Int) : L_vsy_2 (f + 1) (bases, ts, live, tables, i) =
    bif decide (i < (↑bases.length : Int)) then bif decide (0 ≤ i) && decide (i < (↑bases.length : Int)) then bif decide ((tables.length + [(tcapS (bases.getD i.toNat 0)).2.1].length) * 8 ≤ 140737488355328) then L_vsy_2 f (bases, ts, live, tables ++ [(tcapS (bases.getD i.toNat 0)).2.1], IntKind.i64.wrap (i + 1)) else none else none else bif okT ts then bif synPre (ts, live, tables) then L_vsy_4 f (ts, live, tables, synS (ts, live, tables), 0, 0) else none else none := by kernel_rfl
theorem L_vsy_4_eq (f : Nat) (ts : List (SPT)) (live : List (SId)) (tables : List (Int)) (x : List (SPT)) (n : Int) (i : Int) : L_vsy_4 (f + 1) (ts, live, tables, x, n, i) =
    bif decide (i < (↑x.length : Int)) then bif decide (0 ≤ i) && decide (i < (↑x.length : Int)) then bif len40n ts then bif decide (ftS ts (x.getD i.toNat (0, 0, 0, [])).1 < 0) then some false else bif decide (0 ≤ i) && decide (i < (↑x.length : Int)) then bif len40n tables then bif !memD (x.getD i.toNat (0, 0, 0, [])).1 tables then some false else L_vsy_6 f (ts, live, tables, x, n, i, ftS ts (x.getD i.toNat (0, 0, 0, [])).1, 0) else none else none else none else none else L_vsy_8 f (ts, live, tables, x, n, 0, 0) := by kernel_rfl
theorem L_vsy_6_eq (f : Nat) (ts : List (SPT)) (live : List (SId)) (tables : List (Int)) (x : List (SPT)) (n : Int) (i : Int) (k : Int) (j : Int) : L_vsy_6 (f + 1) (ts, live, tables, x, n, i, k, j) =
    bif decide (0 ≤ i) && decide (i < (↑x.length : Int)) then bif decide (j < (↑(List.length (x.getD i.toNat (0, 0, 0, [])).2.2.2) : Int)) then bif decide (0 ≤ k) && decide (k < (↑ts.length : Int)) then bif decide (0 ≤ i) && decide (i < (↑x.length : Int)) then bif decide (0 ≤ j) && decide (j < (↑(List.length (x.getD i.toNat (0, 0, 0, [])).2.2.2) : Int)) then bif len40n (ts.getD k.toNat (0, 0, 0, [])).2.2.2 then bif decide (fmS (ts.getD k.toNat (0, 0, 0, [])).2.2.2 (List.getD (x.getD i.toNat (0, 0, 0, [])).2.2.2 j.toNat (0, 0, 0, 0, 0, 0)).1 < 0) then some false else bif decide (0 ≤ k) && decide (k < (↑ts.length : Int)) then bif decide (0 ≤ fmS (ts.getD k.toNat (0, 0, 0, [])).2.2.2 (List.getD (x.getD i.toNat (0, 0, 0, [])).2.2.2 j.toNat (0, 0, 0, 0, 0, 0)).1) && decide (fmS (ts.getD k.toNat (0, 0, 0, [])).2.2.2 (List.getD (x.getD i.toNat (0, 0, 0, [])).2.2.2 j.toNat (0, 0, 0, 0, 0, 0)).1 < (↑(List.length (ts.getD k.toNat (0, 0, 0, [])).2.2.2) : Int)) then bif decide (0 ≤ i) && decide (i < (↑x.length : Int)) then bif decide (0 ≤ j) && decide (j < (↑(List.length (x.getD i.toNat (0, 0, 0, [])).2.2.2) : Int)) then bif !((List.getD (ts.getD k.toNat (0, 0, 0, [])).2.2.2 (fmS (ts.getD k.toNat (0, 0, 0, [])).2.2.2 (List.getD (x.getD i.toNat (0, 0, 0, [])).2.2.2 j.toNat (0, 0, 0, 0, 0, 0)).1).toNat (0, 0, 0, 0, 0, 0)).1 == (List.getD (x.getD i.toNat (0, 0, 0, [])).2.2.2 j.toNat (0, 0, 0, 0, 0, 0)).1 && ((List.getD (ts.getD k.toNat (0, 0, 0, [])).2.2.2 (fmS (ts.getD k.toNat (0, 0, 0, [])).2.2.2 (List.getD (x.getD i.toNat (0, 0, 0, [])).2.2.2 j.toNat (0, 0, 0, 0, 0, 0)).1).toNat (0, 0, 0, 0, 0, 0)).2.1 == (List.getD (x.getD i.toNat (0, 0, 0, [])).2.2.2 j.toNat (0, 0, 0, 0, 0, 0)).2.1 && ((List.getD (ts.getD k.toNat (0, 0, 0, [])).2.2.2 (fmS (ts.getD k.toNat (0, 0, 0, [])).2.2.2 (List.getD (x.getD i.toNat (0, 0, 0, [])).2.2.2 j.toNat (0, 0, 0, 0, 0, 0)).1).toNat (0, 0, 0, 0, 0, 0)).2.2.1 == (List.getD (x.getD i.toNat (0, 0, 0, [])).2.2.2 j.toNat (0, 0, 0, 0, 0, 0)).2.2.1 && ((List.getD (ts.getD k.toNat (0, 0, 0, [])).2.2.2 (fmS (ts.getD k.toNat (0, 0, 0, [])).2.2.2 (List.getD (x.getD i.toNat (0, 0, 0, [])).2.2.2 j.toNat (0, 0, 0, 0, 0, 0)).1).toNat (0, 0, 0, 0, 0, 0)).2.2.2.1 == (List.getD (x.getD i.toNat (0, 0, 0, [])).2.2.2 j.toNat (0, 0, 0, 0, 0, 0)).2.2.2.1 && ((List.getD (ts.getD k.toNat (0, 0, 0, [])).2.2.2 (fmS (ts.getD k.toNat (0, 0, 0, [])).2.2.2 (List.getD (x.getD i.toNat (0, 0, 0, [])).2.2.2 j.toNat (0, 0, 0, 0, 0, 0)).1).toNat (0, 0, 0, 0, 0, 0)).2.2.2.2.1 == (List.getD (x.getD i.toNat (0, 0, 0, [])).2.2.2 j.toNat (0, 0, 0, 0, 0, 0)).2.2.2.2.1 && ((List.getD (ts.getD k.toNat (0, 0, 0, [])).2.2.2 (fmS (ts.getD k.toNat (0, 0, 0, [])).2.2.2 (List.getD (x.getD i.toNat (0, 0, 0, [])).2.2.2 j.toNat (0, 0, 0, 0, 0, 0)).1).toNat (0, 0, 0, 0, 0, 0)).2.2.2.2.2 == (List.getD (x.getD i.toNat (0, 0, 0, [])).2.2.2 j.toNat (0, 0, 0, 0, 0, 0)).2.2.2.2.2 && true)))))) then some false else bif decide (0 ≤ i) && decide (i < (↑x.length : Int)) then bif decide (0 ≤ j) && decide (j < (↑(List.length (x.getD i.toNat (0, 0, 0, [])).2.2.2) : Int)) then bif len40n live then bif !memD (List.getD (x.getD i.toNat (0, 0, 0, [])).2.2.2 j.toNat (0, 0, 0, 0, 0, 0)).2.2.2 live then some false else L_vsy_6 f (ts, live, tables, x, IntKind.i64.wrap (n + 1), i, k, IntKind.i64.wrap (j + 1)) else none else none else none else none else none else none else none else none else none else none else none else L_vsy_4 f (ts, live, tables, x, n, IntKind.i64.wrap (i + 1)) else none := by kernel_rfl
theorem L_vsy_8_eq (f : Nat) (ts : List (SPT)) (live : List (SId)) (tables : List (Int)) (x : List (SPT)) (n : Int) (want : Int) (i : Int) : L_vsy_8 (f + 1) (ts, live, tables, x, n, want, i) =
    bif decide (i < (↑ts.length : Int)) then L_vsy_10 f (ts, live, tables, x, n, want, i, 0) else bif n == want then bif okM x then bif tabsB x then bif okT x then bif synPre (x, live, tables) then bif okT (synS (x, live, tables)) then bif decide (synS (x, live, tables) = x) then some true else some false else none else none else none else some false else none else some false := by kernel_rfl
theorem L_vsy_10_eq (f : Nat) (ts : List (SPT)) (live : List (SId)) (tables : List (Int)) (x : List (SPT)) (n : Int) (want : Int) (i : Int) (j : Int) : L_vsy_10 (f + 1) (ts, live, tables, x, n, want, i, j) =
    bif decide (0 ≤ i) && decide (i < (↑ts.length : Int)) then bif decide (j < (↑(List.length (ts.getD i.toNat (0, 0, 0, [])).2.2.2) : Int)) then bif decide (0 ≤ i) && decide (i < (↑ts.length : Int)) then bif len40n tables then bif memD (ts.getD i.toNat (0, 0, 0, [])).1 tables then bif decide (0 ≤ i) && decide (i < (↑ts.length : Int)) then bif decide (0 ≤ j) && decide (j < (↑(List.length (ts.getD i.toNat (0, 0, 0, [])).2.2.2) : Int)) then bif len40n live then bif memD (List.getD (ts.getD i.toNat (0, 0, 0, [])).2.2.2 j.toNat (0, 0, 0, 0, 0, 0)).2.2.2 live then L_vsy_10 f (ts, live, tables, x, n, IntKind.i64.wrap (want + 1), i, IntKind.i64.wrap (j + 1)) else L_vsy_10 f (ts, live, tables, x, n, want, i, IntKind.i64.wrap (j + 1)) else none else none else none else L_vsy_10 f (ts, live, tables, x, n, want, i, IntKind.i64.wrap (j + 1)) else none else none else L_vsy_8 f (ts, live, tables, x, n, want, IntKind.i64.wrap (i + 1)) else none := by kernel_rfl
/-! ### Sync in closed form -/
def kepT (live : List SId) (t : SPT) : List SMp := t.2.2.2.filter (keepM live)
def synF (live : List SId) (tables : List Int) : List SPT → List SPT
  | [] => []
  | t :: r => bif memD t.1 tables then putT [] t (kepT live t) ++ synF live tables r else synF live tables r
theorem putT_app (out : List SPT) (t : SPT) (k : List SMp) : putT out t k = out ++ putT [] t k := by
  unfold putT; cases decide (((k.length : Nat) : Int) > 0) <;> simp
theorem synL_app (live : List SId) (tables : List Int) : ∀ (r out : List SPT), synL live tables out r = out ++ synF live tables r
  | [], out => by simp [synL, synF]
  | t :: r, out => by
    simp only [synL, synF]
    cases memD t.1 tables
    · simp only [Bool.not_false, cond_true, cond_false]; exact synL_app live tables r out
    · simp only [Bool.not_true, cond_true, cond_false]
      rw [synL_app live tables r, putT_app, List.append_assoc]; rfl
theorem synS_F (a : List SPT × List SId × List Int) : synS a = synF a.2.1 a.2.2 a.1 := by
  unfold synS; rw [synL_app]; rfl
theorem putT_cases (t : SPT) (k : List SMp) : (k = [] ∧ putT [] t k = []) ∨ (k ≠ [] ∧ putT [] t k = [(t.1, t.2.1, t.2.2.1, k)]) := by
  cases k with
  | nil => exact .inl ⟨rfl, rfl⟩
  | cons m k => exact .inr ⟨by simp, by unfold putT; rw [decide_eq_true (by simp only [List.length_cons]; omega)]; rfl⟩
theorem synF_mem (live : List SId) (tables : List Int) : ∀ (r : List SPT) (u : SPT), u ∈ synF live tables r → ∃ t ∈ r, memD t.1 tables = true ∧ kepT live t ≠ [] ∧ u = (t.1, t.2.1, t.2.2.1, kepT live t)
  | [], u, h => by cases h
  | t :: r, u, h => by
    rw [synF] at h
    cases hm : memD t.1 tables
    · rw [hm] at h
      obtain ⟨v, h1, h2⟩ := synF_mem live tables r u h
      exact ⟨v, List.mem_cons_of_mem _ h1, h2⟩
    · rw [hm, cond_true] at h
      rcases List.mem_append.1 h with h | h
      · rcases putT_cases t (kepT live t) with ⟨_, e⟩ | ⟨hk, e⟩
        · rw [e] at h; cases h
        · rw [e] at h
          exact ⟨t, List.mem_cons_self .., hm, hk, List.mem_singleton.1 h⟩
      · obtain ⟨v, h1, h2⟩ := synF_mem live tables r u h
        exact ⟨v, List.mem_cons_of_mem _ h1, h2⟩
theorem synF_vts {live : List SId} {tables : List Int} {ts : List SPT} (h : Vts ts) : Vts (synF live tables ts) := by
  constructor
  · intro u hu
    obtain ⟨t, ht, -, hk, rfl⟩ := synF_mem live tables ts u hu
    have v := h.tab t ht
    exact ⟨v.geo, v.lev, v.base, hk, fun m hm => v.ok m (List.mem_filter.1 hm).1, v.srt.filter _⟩
  · obtain ⟨_, hs⟩ := h
    induction ts with
    | nil => exact .nil
    | cons t r ih =>
      rw [List.pairwise_cons] at hs
      have i := ih (fun t ht => by rename_i x; exact x t (List.mem_cons_of_mem _ ht)) hs.2
      rw [synF]
      cases memD t.1 tables
      · exact i
      · rw [cond_true]
        rcases putT_cases t (kepT live t) with ⟨_, e⟩ | ⟨hk, e⟩
        · rw [e]; exact i
        · rw [e]
          refine List.pairwise_cons.2 ⟨fun b hb => ?_, i⟩
          obtain ⟨v, hv, -, -, rfl⟩ := synF_mem live tables r b hb
          exact hs.1 v hv
theorem synF_idem (live : List SId) (tables : List Int) : ∀ ts : List SPT, synF live tables (synF live tables ts) = synF live tables ts
  | [] => rfl
  | t :: r => by
    have i := synF_idem live tables r
    rw [synF]
    cases hm : memD t.1 tables
    · exact i
    · rw [cond_true]
      rcases putT_cases t (kepT live t) with ⟨_, e⟩ | ⟨hk, e⟩
      · rw [e]; exact i
      · rw [e]
        have e2 : kepT live (t.1, t.2.1, t.2.2.1, kepT live t) = kepT live t := by
          show (t.2.2.2.filter (keepM live)).filter (keepM live) = t.2.2.2.filter (keepM live)
          rw [List.filter_filter]; simp
        show synF live tables ((t.1, t.2.1, t.2.2.1, kepT live t) :: synF live tables r) = _
        rw [synF]
        show (bif memD t.1 tables then putT [] (t.1, t.2.1, t.2.2.1, kepT live t) (kepT live (t.1, t.2.1, t.2.2.1, kepT live t)) ++ synF live tables (synF live tables r) else _) = _
        rw [hm, cond_true, e2, i]
        show putT [] t (kepT live t) ++ _ = _
        rw [e]
def cnt : List SPT → Nat
  | [] => 0
  | t :: r => t.2.2.2.length + cnt r
def cntT (live : List SId) (tables : List Int) (t : SPT) (r : List SMp) : Nat := bif memD t.1 tables then (r.filter (keepM live)).length else 0
def cntW (live : List SId) (tables : List Int) : List SPT → Nat
  | [] => 0
  | t :: r => cntT live tables t t.2.2.2 + cntW live tables r
theorem cnt_W (live : List SId) (tables : List Int) : ∀ ts : List SPT, cnt (synF live tables ts) = cntW live tables ts
  | [] => rfl
  | t :: r => by
    have i := cnt_W live tables r
    rw [synF, cntW, cntT]
    cases hm : memD t.1 tables
    · rw [cond_false, cond_false, Nat.zero_add]; exact i
    · rw [cond_true, cond_true]
      rcases putT_cases t (kepT live t) with ⟨hk, e⟩ | ⟨hk, e⟩
      · rw [e, show t.2.2.2.filter (keepM live) = [] from hk]
        show cnt (synF live tables r) = 0 + _
        rw [i, Nat.zero_add]
      · rw [e]
        show (kepT live t).length + cnt (synF live tables r) = _
        rw [i]; rfl
theorem cntW_le (live : List SId) (tables : List Int) (b : Nat) : ∀ ts : List SPT, (∀ t ∈ ts, t.2.2.2.length ≤ b) → cntW live tables ts ≤ ts.length * b
  | [], _ => Nat.zero_le _
  | t :: r, h => by
    have i := cntW_le live tables b r (fun u hu => h u (List.mem_cons_of_mem _ hu))
    have h1 := h t (List.mem_cons_self ..)
    have h2 : cntT live tables t t.2.2.2 ≤ t.2.2.2.length := by
      unfold cntT
      cases memD t.1 tables
      · exact Nat.zero_le _
      · exact List.length_filter_le _ _
    rw [cntW, List.length_cons, Nat.succ_mul]; omega
/-! ### The loops -/
theorem fm_mem {l : List SMp} (hs : l.Pairwise (fun a b => a.1 < b.1)) {m : SMp} (hm : m ∈ l) : ∃ A B, l = A ++ m :: B ∧ fmS l m.1 = ((A.length : Nat) : Int) := by
  obtain ⟨A, B, rfl⟩ := List.append_of_mem hm
  refine ⟨A, B, rfl, ?_⟩
  unfold fmS
  rw [findI_hit (p := fun x : SMp => decide (x.1 = m.1)) (x := m) (decide_eq_true rfl) (fun y hy => decide_eq_false (by have := (List.pairwise_append.1 hs).2.2 y hy m (List.mem_cons_self ..); omega)), Int.zero_add]
theorem ft_mem {ts : List SPT} (hs : ts.Pairwise (fun a b => a.1 < b.1)) {t : SPT} (ht : t ∈ ts) : ∃ A B, ts = A ++ t :: B ∧ ftS ts t.1 = ((A.length : Nat) : Int) := by
  obtain ⟨A, B, rfl⟩ := List.append_of_mem ht
  exact ⟨A, B, rfl, ftS_hit rfl fun y hy => (List.pairwise_append.1 hs).2.2 y hy t (List.mem_cons_self ..)⟩
theorem w1 {n : Nat} (h : n ≤ 1000000000) : IntKind.i64.wrap (((n : Nat) : Int) + 1) = ((n + 1 : Nat) : Int) := by rw [i64_id (by omega) (by omega)]; rfl
theorem vsy6 {ts : List SPT} {live : List SId} {tables : List Int} {xp xq : List SPT} {u t : SPT} {k : Int} (hk : ts.getD k.toNat (0, 0, 0, []) = t) (hk0 : decide (0 ≤ k) = true) (hk1 : decide (k < ((ts.length : Nat) : Int)) = true)
    (hs : t.2.2.2.Pairwise (fun a b => a.1 < b.1)) (hl : len40n t.2.2.2 = true) (hlive : len40n live = true) (hxp : xp.length ≤ 1000) : ∀ (r pm : List SMp) (n : Nat), u.2.2.2 = pm ++ r → (∀ m ∈ r, m ∈ t.2.2.2 ∧ memD m.2.2.2 live = true) → pm.length + r.length ≤ 1000 → n + r.length ≤ 1000000 →
    (∃ f, L_vsy_4 f (ts, live, tables, xp ++ u :: xq, ((n + r.length : Nat) : Int), ((xp.length + 1 : Nat) : Int)) = some true) → ∃ f, L_vsy_6 f (ts, live, tables, xp ++ u :: xq, ((n : Nat) : Int), ((xp.length : Nat) : Int), k, ((pm.length : Nat) : Int)) = some true
  | [], pm, n, hu, hm, hp, hn, ⟨f, hf⟩ => by
    refine ⟨f + 1, (L_vsy_6_eq f _ _ _ _ _ _ _ _).trans ?_⟩
    rw [lt_mid, getD_mid, ge0, hu, lt_end, w1 (show xp.length ≤ _ by omega)]
    exact hf
  | m :: r, pm, n, hu, hm, hp, hn, hf => by
    simp only [List.length_cons] at hp hn hf
    have el : (pm ++ [m]).length = pm.length + 1 := by simp
    obtain ⟨f, hf⟩ := vsy6 (tables := tables) (xp := xp) (xq := xq) (u := u) hk hk0 hk1 hs hl hlive hxp r (pm ++ [m]) (n + 1) (by rw [hu]; simp) (fun x hx => hm x (List.mem_cons_of_mem _ hx)) (by rw [el]; omega) (by omega) (by rw [show n + 1 + r.length = n + (r.length + 1) by omega]; exact hf)
    rw [el] at hf
    obtain ⟨h1, h2⟩ := hm m (List.mem_cons_self ..)
    obtain ⟨A, B, e, ef⟩ := fm_mem hs h1
    refine ⟨f + 1, (L_vsy_6_eq f _ _ _ _ _ _ _ _).trans ?_⟩
    rw [lt_mid, getD_mid, ge0, hu, lt_mid, getD_mid, hk, ge0, w1 (by omega), w1 (by omega)]
    rw [hl, ef, hk0, hk1, hlive, h2, e, lt_mid, getD_mid, ge0, decide_eq_false (show ¬ ((A.length : Nat) : Int) < 0 by omega)]
    simp only [beq_self_eq_true, Bool.and_self, Bool.not_true, cond_true, cond_false]
    exact hf
theorem vsy4 {ts : List SPT} {live : List SId} {tables : List Int} (hv : Vts ts) (ho : okN 30 ts = true) (hlive : len40n live = true) (htab : len40n tables = true) : ∀ (r p : List SPT) (n : Nat), (∀ u ∈ r, ∃ t ∈ ts, memD t.1 tables = true ∧ u.1 = t.1 ∧ u.2.2.2.length ≤ 30 ∧ ∀ m ∈ u.2.2.2, m ∈ t.2.2.2 ∧ memD m.2.2.2 live = true) → p.length + r.length ≤ 1000 → n + cnt r ≤ 1000000 →
    (∃ f, L_vsy_8 f (ts, live, tables, p ++ r, ((n + cnt r : Nat) : Int), 0, 0) = some true) → ∃ f, L_vsy_4 f (ts, live, tables, p ++ r, ((n : Nat) : Int), ((p.length : Nat) : Int)) = some true
  | [], p, n, hu, hp, hn, ⟨f, hf⟩ => by
    refine ⟨f + 1, (L_vsy_4_eq f _ _ _ _ _ _).trans ?_⟩
    rw [lt_end]; exact hf
  | u :: r, p, n, hu, hp, hn, hf => by
    simp only [List.length_cons, cnt] at hp hn hf
    have el : (p ++ [u]).length = p.length + 1 := by simp
    obtain ⟨f, hf⟩ := vsy4 hv ho hlive htab r (p ++ [u]) (n + u.2.2.2.length) (fun x hx => hu x (List.mem_cons_of_mem _ hx)) (by rw [el]; omega) (by omega) (by rw [List.append_assoc, Nat.add_assoc]; exact hf)
    rw [el, List.append_assoc] at hf
    obtain ⟨t, ht, h1, h2, h3, h4⟩ := hu u (List.mem_cons_self ..)
    obtain ⟨A, B, e, ef⟩ := ft_mem hv.srt ht
    have hl := okN_mem ho ht
    have hlen := okN_len ho
    obtain ⟨f, hf⟩ := vsy6 (ts := ts) (live := live) (tables := tables) (xp := p) (xq := r) (u := u) (t := t) (k := ((A.length : Nat) : Int)) (by rw [e, getD_mid]) (ge0 _) (by rw [e, lt_mid]) (hv.tab t ht).srt (decide_eq_true (by omega)) hlive (by omega) u.2.2.2 [] n rfl h4 (by simp only [List.length_nil]; omega) (by omega) ⟨f, hf⟩
    refine ⟨f + 1, (L_vsy_4_eq f _ _ _ _ _ _).trans ?_⟩
    rw [lt_mid, getD_mid, ge0, h2, ef, htab, h1, show len40n ts = true from decide_eq_true (by omega), decide_eq_false (show ¬ ((A.length : Nat) : Int) < 0 by omega)]
    exact hf
theorem vsy10 {ts : List SPT} {live : List SId} {tables : List Int} {x : List SPT} {N : Int} {tp tq : List SPT} {t : SPT} (hlive : len40n live = true) (htab : len40n tables = true) (htp : tp.length ≤ 1000) : ∀ (r pm : List SMp) (n : Nat), t.2.2.2 = pm ++ r → pm.length + r.length ≤ 1000 → n + r.length ≤ 1000000 →
    (∃ f, L_vsy_8 f (tp ++ t :: tq, live, tables, x, N, ((n + cntT live tables t r : Nat) : Int), ((tp.length + 1 : Nat) : Int)) = some true) → ∃ f, L_vsy_10 f (tp ++ t :: tq, live, tables, x, N, ((n : Nat) : Int), ((tp.length : Nat) : Int), ((pm.length : Nat) : Int)) = some true
  | [], pm, n, hu, hp, hn, ⟨f, hf⟩ => by
    have e0 : cntT live tables t [] = 0 := by unfold cntT; cases memD t.1 tables <;> rfl
    rw [e0] at hf
    refine ⟨f + 1, (L_vsy_10_eq f _ _ _ _ _ _ _ _).trans ?_⟩
    rw [lt_mid, getD_mid, ge0, hu, lt_end, w1 (show tp.length ≤ _ by omega)]
    exact hf
  | m :: r, pm, n, hu, hp, hn, hf => by
    simp only [List.length_cons] at hp hn
    have el : (pm ++ [m]).length = pm.length + 1 := by simp
    have go := fun n' hn' hf' => vsy10 (ts := ts) (x := x) (N := N) (tp := tp) (tq := tq) (t := t) hlive htab htp r (pm ++ [m]) n' (by rw [hu]; simp) (by rw [el]; omega) hn' hf'
    rw [el] at go
    have cw : cntT live tables t (m :: r) = (bif memD t.1 tables && memD m.2.2.2 live then 1 else 0) + cntT live tables t r := by
      unfold cntT
      cases memD t.1 tables
      · rfl
      · rw [List.filter_cons, show keepM live m = memD m.2.2.2 live from rfl]
        cases memD m.2.2.2 live
        · simp
        · simp; omega
    rw [cw] at hf
    cases h1 : memD t.1 tables
    · rw [h1] at hf
      obtain ⟨f, hf⟩ := go n (by omega) (by simpa using hf)
      refine ⟨f + 1, (L_vsy_10_eq f _ _ _ _ _ _ _ _).trans ?_⟩
      rw [lt_mid, getD_mid, ge0, hu, lt_mid, getD_mid, ge0, htab, h1, w1 (show pm.length ≤ _ by omega)]
      exact hf
    · cases h2 : memD m.2.2.2 live
      · rw [h1, h2] at hf
        obtain ⟨f, hf⟩ := go n (by omega) (by simpa using hf)
        refine ⟨f + 1, (L_vsy_10_eq f _ _ _ _ _ _ _ _).trans ?_⟩
        rw [lt_mid, getD_mid, ge0, hu, lt_mid, getD_mid, ge0, htab, h1, hlive, h2, w1 (show pm.length ≤ _ by omega)]
        exact hf
      · rw [h1, h2] at hf
        obtain ⟨f, hf⟩ := go (n + 1) (by omega) (by rw [Nat.add_assoc]; exact hf)
        refine ⟨f + 1, (L_vsy_10_eq f _ _ _ _ _ _ _ _).trans ?_⟩
        rw [lt_mid, getD_mid, ge0, hu, lt_mid, getD_mid, ge0, htab, h1, hlive, h2, w1 (show pm.length ≤ _ by omega), w1 (show n ≤ _ by omega)]
        exact hf
theorem vsy8 {live : List SId} {tables : List Int} {x : List SPT} {N : Nat} (hlive : len40n live = true) (htab : len40n tables = true) (hx : Vts x) (ho : okN 30 x = true) (hi : synS (x, live, tables) = x) :
    ∀ (r p : List SPT) (n : Nat), (∀ t ∈ r, t.2.2.2.length ≤ 30) → p.length + r.length ≤ 1000 → n + r.length * 30 ≤ 1000000 → N = n + cntW live tables r → ∃ f, L_vsy_8 f (p ++ r, live, tables, x, ((N : Nat) : Int), ((n : Nat) : Int), ((p.length : Nat) : Int)) = some true
  | [], p, n, ht, hp, hn, hN => by
    have k1 := okN_okT (by omega) ho
    have k2 := okT_okM k1
    have hb := (tabsB_iff x).2 hx
    have hN : N = n := hN
    subst hN
    have k3 : synPre (x, live, tables) = true := by simp only [synPre, k1, hlive, htab, Bool.and_self]
    refine ⟨1, (L_vsy_8_eq 0 _ _ _ _ _ _ _).trans ?_⟩
    rw [lt_end]
    simp only [k1, k2, k3, hb, hi, beq_self_eq_true, decide_true, cond_true, cond_false]
  | t :: r, p, n, ht, hp, hn, hN => by
    simp only [List.length_cons] at hp hn
    have el : (p ++ [t]).length = p.length + 1 := by simp
    have h1 := ht t (List.mem_cons_self ..)
    have h2 : cntT live tables t t.2.2.2 ≤ 30 := by
      unfold cntT
      cases memD t.1 tables
      · exact Nat.zero_le _
      · exact Nat.le_trans (List.length_filter_le _ _) h1
    obtain ⟨f, hf⟩ := vsy8 (N := N) hlive htab hx ho hi r (p ++ [t]) (n + cntT live tables t t.2.2.2) (fun u hu => ht u (List.mem_cons_of_mem _ hu)) (by rw [el]; omega) (by omega) (by rw [hN, cntW]; omega)
    rw [el, List.append_assoc] at hf
    obtain ⟨f, hf⟩ := vsy10 (ts := []) (live := live) (tables := tables) (x := x) (N := ((N : Nat) : Int)) (tp := p) (tq := r) (t := t) hlive htab (by omega) t.2.2.2 [] n rfl (by simp only [List.length_nil]; omega) (by omega) ⟨f, hf⟩
    refine ⟨f + 1, (L_vsy_8_eq f _ _ _ _ _ _ _).trans ?_⟩
    rw [lt_mid]
    exact hf
theorem vsy_chk {ts : List SPT} {live : List SId} {tables : List Int} (hv : Vts ts) (ho : okN 30 ts = true) (hlive : len40n live = true) (htab : len40n tables = true) : ∃ f, L_vsy_4 f (ts, live, tables, synS (ts, live, tables), 0, 0) = some true := by
  have hx : Vts (synS (ts, live, tables)) := by rw [synS_F]; exact synF_vts hv
  have hn : okN 30 (synS (ts, live, tables)) = true := by
    rw [synS_F]
    refine okN_mk ?_ fun u hu => ?_
    · have h1 : ∀ l : List SPT, (synF live tables l).length ≤ l.length := fun l => by
        induction l with
        | nil => exact Nat.le_refl _
        | cons t r ih =>
          rw [synF]
          cases memD t.1 tables
          · rw [cond_false, List.length_cons]; omega
          · have := putT_len [] t (kepT live t)
            rw [cond_true, List.length_append, List.length_cons]
            simp only [List.length_nil] at this
            omega
      exact Nat.le_trans (h1 ts) (okN_len ho)
    · obtain ⟨t, ht, -, -, rfl⟩ := synF_mem live tables ts u hu
      exact Nat.le_trans (List.length_filter_le _ _) (okN_mem ho ht)
  have hi : synS (synS (ts, live, tables), live, tables) = synS (ts, live, tables) := by
    rw [synS_F, synS_F]; exact synF_idem live tables ts
  have hc : cnt (synS (ts, live, tables)) = cntW live tables ts := by rw [synS_F]; exact cnt_W live tables ts
  have hW := cntW_le live tables 30 ts fun t ht => okN_mem ho ht
  have hl := okN_len ho
  have hl2 := okN_len hn
  have h8 := vsy8 (N := 0 + cntW live tables ts) hlive htab hx hn hi ts [] 0 (fun t ht => okN_mem ho ht) (by simp only [List.length_nil]; omega) (by omega) rfl
  exact vsy4 hv ho hlive htab (synS (ts, live, tables)) [] 0 (fun u hu => by
    have hlu := okN_mem hn hu
    rw [synS_F] at hu
    obtain ⟨t, ht, hm, -, rfl⟩ := synF_mem live tables ts u hu
    exact ⟨t, ht, hm, rfl, hlu, fun m hm => List.mem_filter.1 hm⟩) (by simp only [List.length_nil]; omega) (by omega) (by rw [hc]; exact h8)
theorem vsy2 {ts : List SPT} {live : List SId} (hv : Vts ts) (ho : okN 30 ts = true) (hlive : live.length ≤ 30) : ∀ (r p acc : List Int), acc.length = p.length → p.length + r.length ≤ 30 → ∃ f, L_vsy_2 f (p ++ r, ts, live, acc, ((p.length : Nat) : Int)) = some true
  | [], p, acc, ha, hp => by
    have k1 := okN_okT (by omega) ho
    have k3 : len40n live = true := decide_eq_true (by omega)
    simp only [List.length_nil] at hp
    have k4 : len40n acc = true := decide_eq_true (by omega)
    obtain ⟨f, hf⟩ := vsy_chk hv ho k3 k4
    refine ⟨f + 1, (L_vsy_2_eq f _ _ _ _ _).trans ?_⟩
    rw [lt_end]
    simp only [synPre, k1, k3, k4, Bool.and_self, cond_true, cond_false]
    exact hf
  | b :: r, p, acc, ha, hp => by
    simp only [List.length_cons] at hp
    have el : (p ++ [b]).length = p.length + 1 := by simp
    obtain ⟨f, hf⟩ := vsy2 hv ho hlive r (p ++ [b]) (acc ++ [(tcapS b).2.1]) (by simp; omega) (by rw [el]; omega)
    rw [el, List.append_assoc] at hf
    refine ⟨f + 1, (L_vsy_2_eq f _ _ _ _ _).trans ?_⟩
    rw [lt_mid, getD_mid, ge0, w1 (show p.length ≤ _ by omega), decide_eq_true (show (acc.length + [(tcapS b).2.1].length) * 8 ≤ 140737488355328 by simp only [List.length_singleton]; omega)]
    exact hf
theorem vsy0 {ts : List SPT} {bases : List Int} (hv : Vts ts) (ho : okN 30 ts = true) (hb : bases.length ≤ 30) : ∀ (r p : List Int) (acc : List SId), acc.length = p.length → p.length + r.length ≤ 30 → ∃ f, L_vsy_0 f (p ++ r, bases, ts, acc, ((p.length : Nat) : Int)) = some true
  | [], p, acc, ha, hp => by
    simp only [List.length_nil] at hp
    obtain ⟨f, hf⟩ := vsy2 hv ho (live := acc) (by omega) bases [] [] rfl (by simpa using hb)
    refine ⟨f + 1, (L_vsy_0_eq f _ _ _ _ _).trans ?_⟩
    rw [lt_end]
    exact hf
  | b :: r, p, acc, ha, hp => by
    simp only [List.length_cons] at hp
    have el : (p ++ [b]).length = p.length + 1 := by simp
    obtain ⟨f, hf⟩ := vsy0 hv ho hb r (p ++ [b]) (acc ++ [((mnodS b).1, (mnodS b).2.1, (mnodS b).2.2.1)]) (by simp; omega) (by rw [el]; omega)
    rw [el, List.append_assoc] at hf
    refine ⟨f + 1, (L_vsy_0_eq f _ _ _ _ _).trans ?_⟩
    rw [lt_mid, getD_mid, ge0, w1 (show p.length ≤ _ by omega), decide_eq_true (show (acc.length + [((mnodS b).1, (mnodS b).2.1, (mnodS b).2.2.1)].length) * 24 ≤ 140737488355328 by simp only [List.length_singleton]; omega)]
    exact hf
theorem vsy_true : ∀ a : List SAc × List Int × List Int, ∃ f, M_vsy f a = some true := by
  rintro ⟨l, ids, bases⟩
  by_cases h1 : ((ids.length : Nat) : Int) > 30
  · exact ⟨1, (M_vsy_eq 0 _ _ _).trans (by rw [decide_eq_true h1]; rfl)⟩
  by_cases h2 : ((bases.length : Nat) : Int) > 30
  · exact ⟨1, (M_vsy_eq 0 _ _ _).trans (by rw [decide_eq_false h1, decide_eq_true h2]; rfl)⟩
  obtain ⟨f, hf⟩ := vsy0 (bases := bases) (grown_vts l) (grown_okN l) (by omega) ids [] [] rfl (by simp only [List.length_nil]; omega)
  exact ⟨f + 1, (M_vsy_eq f _ _ _).trans (by rw [decide_eq_false h1, decide_eq_false h2]; exact hf)⟩
end Go.AL
