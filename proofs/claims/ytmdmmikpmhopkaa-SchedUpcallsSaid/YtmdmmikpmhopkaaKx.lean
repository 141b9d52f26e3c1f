/-
  Layer 30 (sched): one step of a script. By an AI agent.
-/
import Derived.Test.YtmdmmikpmhopkaaK19
import Derived.Test.YtmdmmikpmhopkaaKw
import Derived.Test.YtmdmmikpmhopkaaNv
namespace Go.AL
open Go.Proofs
set_option linter.unusedVariables false
set_option linter.unusedSimpArgs false
set_option maxHeartbeats 4000000
noncomputable def C_doo : Cfg := ⟨Try.prog, [E_place, E_add, E_rem, E_blk, E_wak, E_pst, E_ena], pmT [(4, ([(0, []), (1, []), (2, []), (3, []), (4, []), (5, []), (6, []), (7, []), (8, []), (9, []), (10, [])], [(5, 5), (16, 24)])), (7, ([(0, []), (1, []), (2, []), (3, []), (4, []), (5, []), (6, []), (7, []), (8, []), (9, []), (10, []), (11, []), (12, [])], [(5, 5), (32, 42)])), (15, ([(0, []), (1, []), (2, []), (3, []), (4, []), (5, []), (6, []), (7, []), (8, []), (9, []), (10, [])], [(5, 5), (66, 74)]))], 83, [], [], [], []⟩
theorem es_doo : EsOk Try.prog [E_place, E_add, E_rem, E_blk, E_wak, E_pst, E_ena] [] [] := es_cons E_place_ok (es_cons E_add_ok (es_cons E_rem_ok (es_cons E_blk_ok (es_cons E_wak_ok (es_cons E_pst_ok (es_cons E_ena_ok (es_nil)))))))
def Lt_doo : Nat → LD := ldT []
noncomputable def M_doo (f : Nat) (a : SSd × SSp) : Option (SSd × Int) := (runX (C_doo) Lt_doo (Kret Try.prog [.cell 4 26, .tmp 5] [.g tSSd, .v (.int .i64)]) f [.code (bodyOf Try.f33)] (initX [.g tSSd, .g tSSp] a) : Option (ResT [.g tSSd, .v (.int .i64)]))
theorem M_doo_eq (f : Nat) (s : SSd) (x : SSp) : M_doo (f + 1) (s, x) =
    bif plc (x.1, 10) == 0 then bif okD s then some (addS (s, plc (x.2.1, 8), IntKind.i64.wrap (1 + plc (x.2.2.1, 10)), 0, 0)) else none else bif plc (x.1, 10) == 1 then bif decide (0 ≤ IntKind.u64.wrap (plc (x.2.2.1, 6))) then bif plcPre (x.2.2.2, IntKind.i64.wrap (1 * 2 ^ min (IntKind.u64.wrap (plc (x.2.2.1, 6))).toNat IntKind.i64.bits)) then bif okD s then some (addS (s, plc (x.2.1, 8), 0, IntKind.i64.wrap (1 * 2 ^ min (IntKind.u64.wrap (plc (x.2.2.1, 6))).toNat IntKind.i64.bits), IntKind.i64.wrap (1 + plc (x.2.2.2, IntKind.i64.wrap (1 * 2 ^ min (IntKind.u64.wrap (plc (x.2.2.1, 6))).toNat IntKind.i64.bits))))) else none else none else none else bif plc (x.1, 10) == 2 then bif okD s then some (chgS s (plc (x.2.1, 8)) remF) else none else bif plc (x.1, 10) == 3 then bif okD s then some (chgS s (plc (x.2.1, 8)) blkF) else none else bif plc (x.1, 10) == 4 then bif okD s then some (chgS s (plc (x.2.1, 8)) (wakF s)) else none else bif plc (x.1, 10) == 5 then bif okD s then some (chgS s (plc (x.2.1, 8)) (pstF (IntKind.i64.wrap (1 + plc (x.2.2.1, 100))))) else none else bif plc (x.1, 10) == 6 then bif okD s then some (chgS s (plc (x.2.1, 8)) enaF) else none else some (s, 4) := by kernel_rfl
noncomputable def F_doo : (SSd × SSp) → SSd × Int
  | (s, x) => bif plc (x.1, 10) == 0 then addS (s, plc (x.2.1, 8), IntKind.i64.wrap (1 + plc (x.2.2.1, 10)), 0, 0) else bif plc (x.1, 10) == 1 then addS (s, plc (x.2.1, 8), 0, IntKind.i64.wrap (1 * 2 ^ min (IntKind.u64.wrap (plc (x.2.2.1, 6))).toNat IntKind.i64.bits), IntKind.i64.wrap (1 + plc (x.2.2.2, IntKind.i64.wrap (1 * 2 ^ min (IntKind.u64.wrap (plc (x.2.2.1, 6))).toNat IntKind.i64.bits)))) else bif plc (x.1, 10) == 2 then chgS s (plc (x.2.1, 8)) remF else bif plc (x.1, 10) == 3 then chgS s (plc (x.2.1, 8)) blkF else bif plc (x.1, 10) == 4 then chgS s (plc (x.2.1, 8)) (wakF s) else bif plc (x.1, 10) == 5 then chgS s (plc (x.2.1, 8)) (pstF (IntKind.i64.wrap (1 + plc (x.2.2.1, 100)))) else bif plc (x.1, 10) == 6 then chgS s (plc (x.2.1, 8)) enaF else (s, 4)
noncomputable def P_doo : (SSd × SSp) → Bool
  | (s, x) => bif plc (x.1, 10) == 0 then okD s else bif plc (x.1, 10) == 1 then decide (0 ≤ IntKind.u64.wrap (plc (x.2.2.1, 6))) && (plcPre (x.2.2.2, IntKind.i64.wrap (1 * 2 ^ min (IntKind.u64.wrap (plc (x.2.2.1, 6))).toNat IntKind.i64.bits)) && okD s) else bif plc (x.1, 10) == 2 then okD s else bif plc (x.1, 10) == 3 then okD s else bif plc (x.1, 10) == 4 then okD s else bif plc (x.1, 10) == 5 then okD s else bif plc (x.1, 10) == 6 then okD s else true
theorem doo_auto : ∀ a : SSd × SSp, Rns (fun f => M_doo f a) (P_doo a) (F_doo a)
  | (s, x) => ev_step (fun f => M_doo_eq f _ _) (ev_bif (ev_chk1 ev_some) (ev_bif (ev_chk (ev_chk (ev_chk1 ev_some))) (ev_bif (ev_chk1 ev_some) (ev_bif (ev_chk1 ev_some) (ev_bif (ev_chk1 ev_some) (ev_bif (ev_chk1 ev_some) (ev_bif (ev_chk1 ev_some) ev_some)))))))
def shB (u : Int) : Int := IntKind.i64.wrap (1 * 2 ^ min (IntKind.u64.wrap (plc (u, 6))).toNat IntKind.i64.bits)
theorem shB_ok (u : Int) : perB (shB u) = true ∧ decide (0 ≤ IntKind.u64.wrap (plc (u, 6))) = true ∧ 1 ≤ shB u ∧ shB u ≤ 32 := by
  have key : ∀ n : Fin 6, (perB (IntKind.i64.wrap (1 * 2 ^ min (IntKind.u64.wrap ((n.val : Nat) : Int)).toNat IntKind.i64.bits)) && decide (0 ≤ IntKind.u64.wrap ((n.val : Nat) : Int)) && decide (IntKind.i64.wrap (1 * 2 ^ min (IntKind.u64.wrap ((n.val : Nat) : Int)).toNat IntKind.i64.bits) ≤ 32)) = true := by decide +kernel
  obtain ⟨h1, h2⟩ := plc_rng u (n := 6) (by omega)
  have h3 := key ⟨(plc (u, 6)).toNat, by omega⟩
  simp only [Int.toNat_of_nonneg h1, Bool.and_eq_true, decide_eq_true_eq] at h3
  obtain ⟨⟨h3, h4⟩, h5⟩ := h3
  exact ⟨h3, decide_eq_true h4, (perB_rng h3).1, h5⟩
def doS (a : SSd × SSp) : SSd × Int := bif decide (plc (a.2.1, 10) = 0) then addS (a.1, plc (a.2.2.1, 8), 1 + plc (a.2.2.2.1, 10), 0, 0) else bif decide (plc (a.2.1, 10) = 1) then addS (a.1, plc (a.2.2.1, 8), 0, shB a.2.2.2.1, 1 + plc (a.2.2.2.2, shB a.2.2.2.1)) else
  bif decide (plc (a.2.1, 10) = 2) then chgS a.1 (plc (a.2.2.1, 8)) remF else bif decide (plc (a.2.1, 10) = 3) then chgS a.1 (plc (a.2.2.1, 8)) blkF else bif decide (plc (a.2.1, 10) = 4) then chgS a.1 (plc (a.2.2.1, 8)) (wakF a.1) else
  bif decide (plc (a.2.1, 10) = 5) then chgS a.1 (plc (a.2.2.1, 8)) (pstF (1 + plc (a.2.2.2.1, 100))) else bif decide (plc (a.2.1, 10) = 6) then chgS a.1 (plc (a.2.2.1, 8)) enaF else (a.1, 4)
theorem doo_both : ∀ a : SSd × SSp, okD a.1 = true → P_doo a = true ∧ F_doo a = doS a := fun (s, x) h => by
  have h : okD s = true := h
  obtain ⟨s1, s2, s3, s4⟩ := shB_ok x.2.2.1
  have r1 := plc_rng x.2.2.1 (n := 10) (by omega)
  have r2 := plc_rng x.2.2.1 (n := 100) (by omega)
  have r3 := plc_rng x.2.2.2 (n := shB x.2.2.1) (by omega)
  have fold : IntKind.i64.wrap (1 * 2 ^ min (IntKind.u64.wrap (plc (x.2.2.1, 6))).toNat IntKind.i64.bits) = shB x.2.2.1 := rfl
  have e1 : IntKind.i64.wrap (1 + plc (x.2.2.1, 10)) = 1 + plc (x.2.2.1, 10) := i64_id (by omega) (by omega)
  have e2 : IntKind.i64.wrap (1 + plc (x.2.2.1, 100)) = 1 + plc (x.2.2.1, 100) := i64_id (by omega) (by omega)
  have e3 : IntKind.i64.wrap (1 + plc (x.2.2.2, shB x.2.2.1)) = 1 + plc (x.2.2.2, shB x.2.2.1) := i64_id (by omega) (by omega)
  have hp : plcPre (x.2.2.2, shB x.2.2.1) = true := by
    unfold plcPre
    rw [decide_eq_true (show 0 < (x.2.2.2, shB x.2.2.1).2 by show 0 < shB x.2.2.1; omega), decide_eq_true (show (x.2.2.2, shB x.2.2.1).2 ≤ 4611686018427387904 by show shB x.2.2.1 ≤ _; omega)]; rfl
  constructor
  · simp only [P_doo, fold, hp, h, s2, Bool.and_self, Bool.cond_self]
  · simp only [F_doo, doS, fold, e1, e2, e3, beqD]
theorem doo_P : ∀ a : SSd × SSp, (fun a : SSd × SSp => okD a.1) a = true → P_doo a = true := fun a h => (doo_both a h).1
theorem doo_F : ∀ a : SSd × SSp, (fun a : SSd × SSp => okD a.1) a = true → F_doo a = doS a := fun a h => (doo_both a h).2
theorem doo_run : ∀ a, (fun a : SSd × SSp => okD a.1 : SSd × SSp → Bool) a = true → ∃ f, M_doo f a = some ((doS : SSd × SSp → SSd × Int) a) := fun a h => by have h1 := doo_auto a (doo_P a h); rw [doo_F a h] at h1; exact h1
noncomputable def E_doo : Ent := ⟨33, [.g tSSd, .g tSSp], [.g tSSd, .v (.int .i64)], fun a => (fun a : SSd × SSp => okD a.1 : SSd × SSp → Bool) a, fun a => (doS : SSd × SSp → SSd × Int) a⟩
theorem E_doo_ok : E_doo.Ok Try.prog := fun a hp vs hv => (doo_run a hp).elim fun f h => fnX_ok (C := C_doo) (Lt := Lt_doo) (fn := Try.f33) (rs := [.cell 4 26, .tmp 5]) [.g tSSd, .g tSSp] [.g tSSd, .v (.int .i64)] mixed es_doo Try.func33 rfl rfl rfl (by kernel_rfl) (by kernel_rfl) f h vs hv
end Go.AL
