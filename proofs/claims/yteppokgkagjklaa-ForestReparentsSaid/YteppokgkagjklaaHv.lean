/-
  ForestReparents: its walk and its plain law. By an AI agent.
-/
import Derived.Test.YteppokgkagjklaaPe
namespace Go.AL
open Go.Proofs
set_option linter.unusedVariables false
set_option linter.unusedSimpArgs false
noncomputable def C_rep : Cfg := ⟨Try.prog, [E_fors, E_awake, E_place, E_rcent, E_fpar, E_frem], pmT [(5, ([(0, []), (2, []), (7, []), (1, []), (3, []), (4, []), (5, []), (6, []), (8, []), (9, [])], [(7, 8), (31, 37)])), (6, ([(0, []), (2, []), (1, []), (3, []), (4, []), (5, []), (6, []), (7, []), (8, [])], [(9, 10), (38, 44)])), (12, ([(0, []), (2, []), (3, []), (4, []), (5, []), (6, []), (7, []), (12, []), (1, []), (8, []), (9, []), (10, []), (11, []), (13, []), (14, [])], [(12, 13), (57, 68)])), (13, ([(0, []), (2, []), (3, []), (4, []), (5, []), (6, []), (7, []), (12, []), (1, []), (8, []), (9, []), (10, []), (11, []), (13, []), (14, [])], [(14, 15), (69, 80)]))], 98, []⟩
theorem es_rep : EsOk Try.prog [E_fors, E_awake, E_place, E_rcent, E_fpar, E_frem] [] := es_cons E_fors_ok (es_cons E_awake_ok (es_cons E_place_ok (es_cons E_rcent_ok (es_cons E_fpar_ok (es_cons E_frem_ok (es_nil))))))
def Lt_rep : Nat → LD := ldT [(0, ⟨[.c 5 (.sl tSEn), .box 6 6 25 3 tSId, .box 7 7 25 3 tSId, .c 8 (.bool), .list 9 999 32 13 tSEn, .c 11 (.int .i64)], []⟩)]
noncomputable def M_rep (f : Nat) (a : (List (SSt)) × Int) : Option (Bool) := (runX (C_rep) Lt_rep (Kret Try.prog [.tmp 4] [.v (.bool)]) f [.code (bodyOf Try.f11)] (initX [.rd tSSt, .c (.int .i64)] a) : Option (ResT [.v (.bool)]))
noncomputable def L_rep_0 (f : Nat) (x : (List (SEn)) × SId × SId × Bool × (List (SEn)) × Int) : Option (Bool) := (runX (C_rep) Lt_rep (Kret Try.prog [.tmp 4] [.v (.bool)]) f (headOf Try.f11 0) ((Lt_rep 0).mk' x) : Option (ResT [.v (.bool)]))
theorem M_rep_eq (f : Nat) (steps : List (SSt)) (which : Int) : M_rep (f + 1) (steps, which) =
    bif (↑(forest steps).length : Int) == 0 then some true else bif place_pre (which, (↑(forest steps).length : Int)) then bif decide (0 ≤ place (which, (↑(forest steps).length : Int))) && decide (place (which, (↑(forest steps).length : Int)) < (↑(forest steps).length : Int)) then bif okE (forest steps) then bif Go.Proofs.parPre (forest steps, ((forest steps).getD (place (which, (↑(forest steps).length : Int))).toNat (0, 0, 0, 0, 0, [], 0, 0, 0, 0, 0, 0, false)).2.2.1, ((forest steps).getD (place (which, (↑(forest steps).length : Int))).toNat (0, 0, 0, 0, 0, [], 0, 0, 0, 0, 0, 0, false)).2.2.2.1, ((forest steps).getD (place (which, (↑(forest steps).length : Int))).toNat (0, 0, 0, 0, 0, [], 0, 0, 0, 0, 0, 0, false)).2.2.2.2.1) then bif okE (forest steps) then bif okF (forest steps) then bif (↑(List.length (remS (forest steps, ((forest steps).getD (place (which, (↑(forest steps).length : Int))).toNat (0, 0, 0, 0, 0, [], 0, 0, 0, 0, 0, 0, false)).2.2.1, ((forest steps).getD (place (which, (↑(forest steps).length : Int))).toNat (0, 0, 0, 0, 0, [], 0, 0, 0, 0, 0, 0, false)).2.2.2.1, ((forest steps).getD (place (which, (↑(forest steps).length : Int))).toNat (0, 0, 0, 0, 0, [], 0, 0, 0, 0, 0, 0, false)).2.2.2.2.1)).1) : Int) != IntKind.i64.wrap ((↑(forest steps).length : Int) - 1) then some false else L_rep_0 f (forest steps, (((forest steps).getD (place (which, (↑(forest steps).length : Int))).toNat (0, 0, 0, 0, 0, [], 0, 0, 0, 0, 0, 0, false)).2.2.1, ((forest steps).getD (place (which, (↑(forest steps).length : Int))).toNat (0, 0, 0, 0, 0, [], 0, 0, 0, 0, 0, 0, false)).2.2.2.1, ((forest steps).getD (place (which, (↑(forest steps).length : Int))).toNat (0, 0, 0, 0, 0, [], 0, 0, 0, 0, 0, 0, false)).2.2.2.2.1), (Go.Proofs.parS (forest steps, ((forest steps).getD (place (which, (↑(forest steps).length : Int))).toNat (0, 0, 0, 0, 0, [], 0, 0, 0, 0, 0, 0, false)).2.2.1, ((forest steps).getD (place (which, (↑(forest steps).length : Int))).toNat (0, 0, 0, 0, 0, [], 0, 0, 0, 0, 0, 0, false)).2.2.2.1, ((forest steps).getD (place (which, (↑(forest steps).length : Int))).toNat (0, 0, 0, 0, 0, [], 0, 0, 0, 0, 0, 0, false)).2.2.2.2.1)).1, (Go.Proofs.parS (forest steps, ((forest steps).getD (place (which, (↑(forest steps).length : Int))).toNat (0, 0, 0, 0, 0, [], 0, 0, 0, 0, 0, 0, false)).2.2.1, ((forest steps).getD (place (which, (↑(forest steps).length : Int))).toNat (0, 0, 0, 0, 0, [], 0, 0, 0, 0, 0, 0, false)).2.2.2.1, ((forest steps).getD (place (which, (↑(forest steps).length : Int))).toNat (0, 0, 0, 0, 0, [], 0, 0, 0, 0, 0, 0, false)).2.2.2.2.1)).2, (remS (forest steps, ((forest steps).getD (place (which, (↑(forest steps).length : Int))).toNat (0, 0, 0, 0, 0, [], 0, 0, 0, 0, 0, 0, false)).2.2.1, ((forest steps).getD (place (which, (↑(forest steps).length : Int))).toNat (0, 0, 0, 0, 0, [], 0, 0, 0, 0, 0, 0, false)).2.2.2.1, ((forest steps).getD (place (which, (↑(forest steps).length : Int))).toNat (0, 0, 0, 0, 0, [], 0, 0, 0, 0, 0, 0, false)).2.2.2.2.1)).1, 0) else none else none else none else none else none else none := by kernel_rfl
theorem L_rep_0_eq (f : Nat) (l : List (SEn)) (gone : SId) (above : SId) (has : Bool) (x : List (SEn)) (i : Int) : L_rep_0 (f + 1) (l, gone, above, has, x, i) =
    bif decide (i < (↑x.length : Int)) then bif decide (0 ≤ i) && decide (i < (↑x.length : Int)) then bif okE l then bif Go.Proofs.parPre (l, (x.getD i.toNat (0, 0, 0, 0, 0, [], 0, 0, 0, 0, 0, 0, false)).2.2.1, (x.getD i.toNat (0, 0, 0, 0, 0, [], 0, 0, 0, 0, 0, 0, false)).2.2.2.1, (x.getD i.toNat (0, 0, 0, 0, 0, [], 0, 0, 0, 0, 0, 0, false)).2.2.2.2.1) then bif decide (0 ≤ i) && decide (i < (↑x.length : Int)) then bif okE x then bif Go.Proofs.parPre (x, (x.getD i.toNat (0, 0, 0, 0, 0, [], 0, 0, 0, 0, 0, 0, false)).2.2.1, (x.getD i.toNat (0, 0, 0, 0, 0, [], 0, 0, 0, 0, 0, 0, false)).2.2.2.1, (x.getD i.toNat (0, 0, 0, 0, 0, [], 0, 0, 0, 0, 0, 0, false)).2.2.2.2.1) then bif (Go.Proofs.parS (l, (x.getD i.toNat (0, 0, 0, 0, 0, [], 0, 0, 0, 0, 0, 0, false)).2.2.1, (x.getD i.toNat (0, 0, 0, 0, 0, [], 0, 0, 0, 0, 0, 0, false)).2.2.2.1, (x.getD i.toNat (0, 0, 0, 0, 0, [], 0, 0, 0, 0, 0, 0, false)).2.2.2.2.1)).2 then bif (Go.Proofs.parS (l, (x.getD i.toNat (0, 0, 0, 0, 0, [], 0, 0, 0, 0, 0, 0, false)).2.2.1, (x.getD i.toNat (0, 0, 0, 0, 0, [], 0, 0, 0, 0, 0, 0, false)).2.2.2.1, (x.getD i.toNat (0, 0, 0, 0, 0, [], 0, 0, 0, 0, 0, 0, false)).2.2.2.2.1)).1.1 == gone.1 && ((Go.Proofs.parS (l, (x.getD i.toNat (0, 0, 0, 0, 0, [], 0, 0, 0, 0, 0, 0, false)).2.2.1, (x.getD i.toNat (0, 0, 0, 0, 0, [], 0, 0, 0, 0, 0, 0, false)).2.2.2.1, (x.getD i.toNat (0, 0, 0, 0, 0, [], 0, 0, 0, 0, 0, 0, false)).2.2.2.2.1)).1.2.1 == gone.2.1 && ((Go.Proofs.parS (l, (x.getD i.toNat (0, 0, 0, 0, 0, [], 0, 0, 0, 0, 0, 0, false)).2.2.1, (x.getD i.toNat (0, 0, 0, 0, 0, [], 0, 0, 0, 0, 0, 0, false)).2.2.2.1, (x.getD i.toNat (0, 0, 0, 0, 0, [], 0, 0, 0, 0, 0, 0, false)).2.2.2.2.1)).1.2.2 == gone.2.2 && true)) then bif !(above.1 == (Go.Proofs.parS (x, (x.getD i.toNat (0, 0, 0, 0, 0, [], 0, 0, 0, 0, 0, 0, false)).2.2.1, (x.getD i.toNat (0, 0, 0, 0, 0, [], 0, 0, 0, 0, 0, 0, false)).2.2.2.1, (x.getD i.toNat (0, 0, 0, 0, 0, [], 0, 0, 0, 0, 0, 0, false)).2.2.2.2.1)).1.1 && (above.2.1 == (Go.Proofs.parS (x, (x.getD i.toNat (0, 0, 0, 0, 0, [], 0, 0, 0, 0, 0, 0, false)).2.2.1, (x.getD i.toNat (0, 0, 0, 0, 0, [], 0, 0, 0, 0, 0, 0, false)).2.2.2.1, (x.getD i.toNat (0, 0, 0, 0, 0, [], 0, 0, 0, 0, 0, 0, false)).2.2.2.2.1)).1.2.1 && (above.2.2 == (Go.Proofs.parS (x, (x.getD i.toNat (0, 0, 0, 0, 0, [], 0, 0, 0, 0, 0, 0, false)).2.2.1, (x.getD i.toNat (0, 0, 0, 0, 0, [], 0, 0, 0, 0, 0, 0, false)).2.2.2.1, (x.getD i.toNat (0, 0, 0, 0, 0, [], 0, 0, 0, 0, 0, 0, false)).2.2.2.2.1)).1.2.2 && true))) then some false else bif has != (Go.Proofs.parS (x, (x.getD i.toNat (0, 0, 0, 0, 0, [], 0, 0, 0, 0, 0, 0, false)).2.2.1, (x.getD i.toNat (0, 0, 0, 0, 0, [], 0, 0, 0, 0, 0, 0, false)).2.2.2.1, (x.getD i.toNat (0, 0, 0, 0, 0, [], 0, 0, 0, 0, 0, 0, false)).2.2.2.2.1)).2 then some false else L_rep_0 f (l, gone, above, has, x, IntKind.i64.wrap (i + 1)) else bif !((Go.Proofs.parS (l, (x.getD i.toNat (0, 0, 0, 0, 0, [], 0, 0, 0, 0, 0, 0, false)).2.2.1, (x.getD i.toNat (0, 0, 0, 0, 0, [], 0, 0, 0, 0, 0, 0, false)).2.2.2.1, (x.getD i.toNat (0, 0, 0, 0, 0, [], 0, 0, 0, 0, 0, 0, false)).2.2.2.2.1)).1.1 == (Go.Proofs.parS (x, (x.getD i.toNat (0, 0, 0, 0, 0, [], 0, 0, 0, 0, 0, 0, false)).2.2.1, (x.getD i.toNat (0, 0, 0, 0, 0, [], 0, 0, 0, 0, 0, 0, false)).2.2.2.1, (x.getD i.toNat (0, 0, 0, 0, 0, [], 0, 0, 0, 0, 0, 0, false)).2.2.2.2.1)).1.1 && ((Go.Proofs.parS (l, (x.getD i.toNat (0, 0, 0, 0, 0, [], 0, 0, 0, 0, 0, 0, false)).2.2.1, (x.getD i.toNat (0, 0, 0, 0, 0, [], 0, 0, 0, 0, 0, 0, false)).2.2.2.1, (x.getD i.toNat (0, 0, 0, 0, 0, [], 0, 0, 0, 0, 0, 0, false)).2.2.2.2.1)).1.2.1 == (Go.Proofs.parS (x, (x.getD i.toNat (0, 0, 0, 0, 0, [], 0, 0, 0, 0, 0, 0, false)).2.2.1, (x.getD i.toNat (0, 0, 0, 0, 0, [], 0, 0, 0, 0, 0, 0, false)).2.2.2.1, (x.getD i.toNat (0, 0, 0, 0, 0, [], 0, 0, 0, 0, 0, 0, false)).2.2.2.2.1)).1.2.1 && ((Go.Proofs.parS (l, (x.getD i.toNat (0, 0, 0, 0, 0, [], 0, 0, 0, 0, 0, 0, false)).2.2.1, (x.getD i.toNat (0, 0, 0, 0, 0, [], 0, 0, 0, 0, 0, 0, false)).2.2.2.1, (x.getD i.toNat (0, 0, 0, 0, 0, [], 0, 0, 0, 0, 0, 0, false)).2.2.2.2.1)).1.2.2 == (Go.Proofs.parS (x, (x.getD i.toNat (0, 0, 0, 0, 0, [], 0, 0, 0, 0, 0, 0, false)).2.2.1, (x.getD i.toNat (0, 0, 0, 0, 0, [], 0, 0, 0, 0, 0, 0, false)).2.2.2.1, (x.getD i.toNat (0, 0, 0, 0, 0, [], 0, 0, 0, 0, 0, 0, false)).2.2.2.2.1)).1.2.2 && true))) then some false else bif (Go.Proofs.parS (l, (x.getD i.toNat (0, 0, 0, 0, 0, [], 0, 0, 0, 0, 0, 0, false)).2.2.1, (x.getD i.toNat (0, 0, 0, 0, 0, [], 0, 0, 0, 0, 0, 0, false)).2.2.2.1, (x.getD i.toNat (0, 0, 0, 0, 0, [], 0, 0, 0, 0, 0, 0, false)).2.2.2.2.1)).2 != (Go.Proofs.parS (x, (x.getD i.toNat (0, 0, 0, 0, 0, [], 0, 0, 0, 0, 0, 0, false)).2.2.1, (x.getD i.toNat (0, 0, 0, 0, 0, [], 0, 0, 0, 0, 0, 0, false)).2.2.2.1, (x.getD i.toNat (0, 0, 0, 0, 0, [], 0, 0, 0, 0, 0, 0, false)).2.2.2.2.1)).2 then some false else L_rep_0 f (l, gone, above, has, x, IntKind.i64.wrap (i + 1)) else bif !((Go.Proofs.parS (l, (x.getD i.toNat (0, 0, 0, 0, 0, [], 0, 0, 0, 0, 0, 0, false)).2.2.1, (x.getD i.toNat (0, 0, 0, 0, 0, [], 0, 0, 0, 0, 0, 0, false)).2.2.2.1, (x.getD i.toNat (0, 0, 0, 0, 0, [], 0, 0, 0, 0, 0, 0, false)).2.2.2.2.1)).1.1 == (Go.Proofs.parS (x, (x.getD i.toNat (0, 0, 0, 0, 0, [], 0, 0, 0, 0, 0, 0, false)).2.2.1, (x.getD i.toNat (0, 0, 0, 0, 0, [], 0, 0, 0, 0, 0, 0, false)).2.2.2.1, (x.getD i.toNat (0, 0, 0, 0, 0, [], 0, 0, 0, 0, 0, 0, false)).2.2.2.2.1)).1.1 && ((Go.Proofs.parS (l, (x.getD i.toNat (0, 0, 0, 0, 0, [], 0, 0, 0, 0, 0, 0, false)).2.2.1, (x.getD i.toNat (0, 0, 0, 0, 0, [], 0, 0, 0, 0, 0, 0, false)).2.2.2.1, (x.getD i.toNat (0, 0, 0, 0, 0, [], 0, 0, 0, 0, 0, 0, false)).2.2.2.2.1)).1.2.1 == (Go.Proofs.parS (x, (x.getD i.toNat (0, 0, 0, 0, 0, [], 0, 0, 0, 0, 0, 0, false)).2.2.1, (x.getD i.toNat (0, 0, 0, 0, 0, [], 0, 0, 0, 0, 0, 0, false)).2.2.2.1, (x.getD i.toNat (0, 0, 0, 0, 0, [], 0, 0, 0, 0, 0, 0, false)).2.2.2.2.1)).1.2.1 && ((Go.Proofs.parS (l, (x.getD i.toNat (0, 0, 0, 0, 0, [], 0, 0, 0, 0, 0, 0, false)).2.2.1, (x.getD i.toNat (0, 0, 0, 0, 0, [], 0, 0, 0, 0, 0, 0, false)).2.2.2.1, (x.getD i.toNat (0, 0, 0, 0, 0, [], 0, 0, 0, 0, 0, 0, false)).2.2.2.2.1)).1.2.2 == (Go.Proofs.parS (x, (x.getD i.toNat (0, 0, 0, 0, 0, [], 0, 0, 0, 0, 0, 0, false)).2.2.1, (x.getD i.toNat (0, 0, 0, 0, 0, [], 0, 0, 0, 0, 0, 0, false)).2.2.2.1, (x.getD i.toNat (0, 0, 0, 0, 0, [], 0, 0, 0, 0, 0, 0, false)).2.2.2.2.1)).1.2.2 && true))) then some false else bif (Go.Proofs.parS (l, (x.getD i.toNat (0, 0, 0, 0, 0, [], 0, 0, 0, 0, 0, 0, false)).2.2.1, (x.getD i.toNat (0, 0, 0, 0, 0, [], 0, 0, 0, 0, 0, 0, false)).2.2.2.1, (x.getD i.toNat (0, 0, 0, 0, 0, [], 0, 0, 0, 0, 0, 0, false)).2.2.2.2.1)).2 != (Go.Proofs.parS (x, (x.getD i.toNat (0, 0, 0, 0, 0, [], 0, 0, 0, 0, 0, 0, false)).2.2.1, (x.getD i.toNat (0, 0, 0, 0, 0, [], 0, 0, 0, 0, 0, 0, false)).2.2.2.1, (x.getD i.toNat (0, 0, 0, 0, 0, [], 0, 0, 0, 0, 0, 0, false)).2.2.2.2.1)).2 then some false else L_rep_0 f (l, gone, above, has, x, IntKind.i64.wrap (i + 1)) else none else none else none else none else none else none else some true := by kernel_rfl
noncomputable def F_rep_0 : List (SEn) → ((List (SEn)) × SId × SId × Bool × (List (SEn)) × Nat) → Bool
  | [], (l, gone, above, has, x, i) => true
  | uu :: rest, (l, gone, above, has, x, i) => bif (Go.Proofs.parS (l, uu.2.2.1, uu.2.2.2.1, uu.2.2.2.2.1)).2 then bif (Go.Proofs.parS (l, uu.2.2.1, uu.2.2.2.1, uu.2.2.2.2.1)).1.1 == gone.1 && ((Go.Proofs.parS (l, uu.2.2.1, uu.2.2.2.1, uu.2.2.2.2.1)).1.2.1 == gone.2.1 && ((Go.Proofs.parS (l, uu.2.2.1, uu.2.2.2.1, uu.2.2.2.2.1)).1.2.2 == gone.2.2 && true)) then bif !(above.1 == (Go.Proofs.parS (x, uu.2.2.1, uu.2.2.2.1, uu.2.2.2.2.1)).1.1 && (above.2.1 == (Go.Proofs.parS (x, uu.2.2.1, uu.2.2.2.1, uu.2.2.2.2.1)).1.2.1 && (above.2.2 == (Go.Proofs.parS (x, uu.2.2.1, uu.2.2.2.1, uu.2.2.2.2.1)).1.2.2 && true))) then false else bif has != (Go.Proofs.parS (x, uu.2.2.1, uu.2.2.2.1, uu.2.2.2.2.1)).2 then false else F_rep_0 rest (l, gone, above, has, x, i + 1) else bif !((Go.Proofs.parS (l, uu.2.2.1, uu.2.2.2.1, uu.2.2.2.2.1)).1.1 == (Go.Proofs.parS (x, uu.2.2.1, uu.2.2.2.1, uu.2.2.2.2.1)).1.1 && ((Go.Proofs.parS (l, uu.2.2.1, uu.2.2.2.1, uu.2.2.2.2.1)).1.2.1 == (Go.Proofs.parS (x, uu.2.2.1, uu.2.2.2.1, uu.2.2.2.2.1)).1.2.1 && ((Go.Proofs.parS (l, uu.2.2.1, uu.2.2.2.1, uu.2.2.2.2.1)).1.2.2 == (Go.Proofs.parS (x, uu.2.2.1, uu.2.2.2.1, uu.2.2.2.2.1)).1.2.2 && true))) then false else bif (Go.Proofs.parS (l, uu.2.2.1, uu.2.2.2.1, uu.2.2.2.2.1)).2 != (Go.Proofs.parS (x, uu.2.2.1, uu.2.2.2.1, uu.2.2.2.2.1)).2 then false else F_rep_0 rest (l, gone, above, has, x, i + 1) else bif !((Go.Proofs.parS (l, uu.2.2.1, uu.2.2.2.1, uu.2.2.2.2.1)).1.1 == (Go.Proofs.parS (x, uu.2.2.1, uu.2.2.2.1, uu.2.2.2.2.1)).1.1 && ((Go.Proofs.parS (l, uu.2.2.1, uu.2.2.2.1, uu.2.2.2.2.1)).1.2.1 == (Go.Proofs.parS (x, uu.2.2.1, uu.2.2.2.1, uu.2.2.2.2.1)).1.2.1 && ((Go.Proofs.parS (l, uu.2.2.1, uu.2.2.2.1, uu.2.2.2.2.1)).1.2.2 == (Go.Proofs.parS (x, uu.2.2.1, uu.2.2.2.1, uu.2.2.2.2.1)).1.2.2 && true))) then false else bif (Go.Proofs.parS (l, uu.2.2.1, uu.2.2.2.1, uu.2.2.2.2.1)).2 != (Go.Proofs.parS (x, uu.2.2.1, uu.2.2.2.1, uu.2.2.2.2.1)).2 then false else F_rep_0 rest (l, gone, above, has, x, i + 1)
noncomputable def P_rep_0 : List (SEn) → ((List (SEn)) × SId × SId × Bool × (List (SEn)) × Nat) → Bool
  | [], (l, gone, above, has, x, i) => true
  | uu :: rest, (l, gone, above, has, x, i) => okE l && (Go.Proofs.parPre (l, uu.2.2.1, uu.2.2.2.1, uu.2.2.2.2.1) && (okE x && (Go.Proofs.parPre (x, uu.2.2.1, uu.2.2.2.1, uu.2.2.2.2.1) && bif (Go.Proofs.parS (l, uu.2.2.1, uu.2.2.2.1, uu.2.2.2.2.1)).2 then bif (Go.Proofs.parS (l, uu.2.2.1, uu.2.2.2.1, uu.2.2.2.2.1)).1.1 == gone.1 && ((Go.Proofs.parS (l, uu.2.2.1, uu.2.2.2.1, uu.2.2.2.2.1)).1.2.1 == gone.2.1 && ((Go.Proofs.parS (l, uu.2.2.1, uu.2.2.2.1, uu.2.2.2.2.1)).1.2.2 == gone.2.2 && true)) then bif !(above.1 == (Go.Proofs.parS (x, uu.2.2.1, uu.2.2.2.1, uu.2.2.2.2.1)).1.1 && (above.2.1 == (Go.Proofs.parS (x, uu.2.2.1, uu.2.2.2.1, uu.2.2.2.2.1)).1.2.1 && (above.2.2 == (Go.Proofs.parS (x, uu.2.2.1, uu.2.2.2.1, uu.2.2.2.2.1)).1.2.2 && true))) then true else bif has != (Go.Proofs.parS (x, uu.2.2.1, uu.2.2.2.1, uu.2.2.2.2.1)).2 then true else P_rep_0 rest (l, gone, above, has, x, i + 1) else bif !((Go.Proofs.parS (l, uu.2.2.1, uu.2.2.2.1, uu.2.2.2.2.1)).1.1 == (Go.Proofs.parS (x, uu.2.2.1, uu.2.2.2.1, uu.2.2.2.2.1)).1.1 && ((Go.Proofs.parS (l, uu.2.2.1, uu.2.2.2.1, uu.2.2.2.2.1)).1.2.1 == (Go.Proofs.parS (x, uu.2.2.1, uu.2.2.2.1, uu.2.2.2.2.1)).1.2.1 && ((Go.Proofs.parS (l, uu.2.2.1, uu.2.2.2.1, uu.2.2.2.2.1)).1.2.2 == (Go.Proofs.parS (x, uu.2.2.1, uu.2.2.2.1, uu.2.2.2.2.1)).1.2.2 && true))) then true else bif (Go.Proofs.parS (l, uu.2.2.1, uu.2.2.2.1, uu.2.2.2.2.1)).2 != (Go.Proofs.parS (x, uu.2.2.1, uu.2.2.2.1, uu.2.2.2.2.1)).2 then true else P_rep_0 rest (l, gone, above, has, x, i + 1) else bif !((Go.Proofs.parS (l, uu.2.2.1, uu.2.2.2.1, uu.2.2.2.2.1)).1.1 == (Go.Proofs.parS (x, uu.2.2.1, uu.2.2.2.1, uu.2.2.2.2.1)).1.1 && ((Go.Proofs.parS (l, uu.2.2.1, uu.2.2.2.1, uu.2.2.2.2.1)).1.2.1 == (Go.Proofs.parS (x, uu.2.2.1, uu.2.2.2.1, uu.2.2.2.2.1)).1.2.1 && ((Go.Proofs.parS (l, uu.2.2.1, uu.2.2.2.1, uu.2.2.2.2.1)).1.2.2 == (Go.Proofs.parS (x, uu.2.2.1, uu.2.2.2.1, uu.2.2.2.2.1)).1.2.2 && true))) then true else bif (Go.Proofs.parS (l, uu.2.2.1, uu.2.2.2.1, uu.2.2.2.2.1)).2 != (Go.Proofs.parS (x, uu.2.2.1, uu.2.2.2.1, uu.2.2.2.2.1)).2 then true else P_rep_0 rest (l, gone, above, has, x, i + 1))))
theorem A_rep_0 : ∀ (rest : List (SEn)) (l : List (SEn)) (gone : SId) (above : SId) (has : Bool) (x : List (SEn)) (i : Nat) (hd : x.drop i = rest) (hl : x.length ≤ 1099511627776), Rns (fun f => L_rep_0 f (l, gone, above, has, x, ((i : Nat) : Int))) (P_rep_0 rest (l, gone, above, has, x, i)) (F_rep_0 rest (l, gone, above, has, x, i))
  | [], l, gone, above, has, x, i, hd, hl => ev_step (T := fun f => some true) (fun f => (L_rep_0_eq f _ _ _ _ _ _).trans (by simp only [ge_dec (drop_ge hd), ge0, Bool.and_self, Bool.true_and, cond_true, cond_false, List.length_set] <;> rfl)) ev_some
  | uu :: rest, l, gone, above, has, x, i, hd, hl => ev_step (T := fun f => bif okE l then bif Go.Proofs.parPre (l, uu.2.2.1, uu.2.2.2.1, uu.2.2.2.2.1) then bif okE x then bif Go.Proofs.parPre (x, uu.2.2.1, uu.2.2.2.1, uu.2.2.2.2.1) then bif (Go.Proofs.parS (l, uu.2.2.1, uu.2.2.2.1, uu.2.2.2.2.1)).2 then bif (Go.Proofs.parS (l, uu.2.2.1, uu.2.2.2.1, uu.2.2.2.2.1)).1.1 == gone.1 && ((Go.Proofs.parS (l, uu.2.2.1, uu.2.2.2.1, uu.2.2.2.2.1)).1.2.1 == gone.2.1 && ((Go.Proofs.parS (l, uu.2.2.1, uu.2.2.2.1, uu.2.2.2.2.1)).1.2.2 == gone.2.2 && true)) then bif !(above.1 == (Go.Proofs.parS (x, uu.2.2.1, uu.2.2.2.1, uu.2.2.2.2.1)).1.1 && (above.2.1 == (Go.Proofs.parS (x, uu.2.2.1, uu.2.2.2.1, uu.2.2.2.2.1)).1.2.1 && (above.2.2 == (Go.Proofs.parS (x, uu.2.2.1, uu.2.2.2.1, uu.2.2.2.2.1)).1.2.2 && true))) then some false else bif has != (Go.Proofs.parS (x, uu.2.2.1, uu.2.2.2.1, uu.2.2.2.2.1)).2 then some false else L_rep_0 f (l, gone, above, has, x, (↑(i + 1) : Int)) else bif !((Go.Proofs.parS (l, uu.2.2.1, uu.2.2.2.1, uu.2.2.2.2.1)).1.1 == (Go.Proofs.parS (x, uu.2.2.1, uu.2.2.2.1, uu.2.2.2.2.1)).1.1 && ((Go.Proofs.parS (l, uu.2.2.1, uu.2.2.2.1, uu.2.2.2.2.1)).1.2.1 == (Go.Proofs.parS (x, uu.2.2.1, uu.2.2.2.1, uu.2.2.2.2.1)).1.2.1 && ((Go.Proofs.parS (l, uu.2.2.1, uu.2.2.2.1, uu.2.2.2.2.1)).1.2.2 == (Go.Proofs.parS (x, uu.2.2.1, uu.2.2.2.1, uu.2.2.2.2.1)).1.2.2 && true))) then some false else bif (Go.Proofs.parS (l, uu.2.2.1, uu.2.2.2.1, uu.2.2.2.2.1)).2 != (Go.Proofs.parS (x, uu.2.2.1, uu.2.2.2.1, uu.2.2.2.2.1)).2 then some false else L_rep_0 f (l, gone, above, has, x, (↑(i + 1) : Int)) else bif !((Go.Proofs.parS (l, uu.2.2.1, uu.2.2.2.1, uu.2.2.2.2.1)).1.1 == (Go.Proofs.parS (x, uu.2.2.1, uu.2.2.2.1, uu.2.2.2.2.1)).1.1 && ((Go.Proofs.parS (l, uu.2.2.1, uu.2.2.2.1, uu.2.2.2.2.1)).1.2.1 == (Go.Proofs.parS (x, uu.2.2.1, uu.2.2.2.1, uu.2.2.2.2.1)).1.2.1 && ((Go.Proofs.parS (l, uu.2.2.1, uu.2.2.2.1, uu.2.2.2.2.1)).1.2.2 == (Go.Proofs.parS (x, uu.2.2.1, uu.2.2.2.1, uu.2.2.2.2.1)).1.2.2 && true))) then some false else bif (Go.Proofs.parS (l, uu.2.2.1, uu.2.2.2.1, uu.2.2.2.2.1)).2 != (Go.Proofs.parS (x, uu.2.2.1, uu.2.2.2.1, uu.2.2.2.2.1)).2 then some false else L_rep_0 f (l, gone, above, has, x, (↑(i + 1) : Int)) else none else none else none else none) (fun f => (L_rep_0_eq f _ _ _ _ _ _).trans (by simp only [lt_dec (drop_lt hd), drop_get hd, wrap_succ (drop_lt hd) hl, getD_set (drop_lt hd), ge0, Bool.and_self, Bool.true_and, cond_true, cond_false, List.length_set] <;> rfl)) (ev_chk (ev_chk (ev_chk (ev_chk (ev_bif (ev_bif (ev_bif ev_some (ev_bif ev_some (A_rep_0 rest _ _ _ _ _ _ (by first | exact drop_succ hd | exact drop_set hd | exact drop_setS (drop_set hd)) (by first | exact hl | simpa using hl)))) (ev_bif ev_some (ev_bif ev_some (A_rep_0 rest _ _ _ _ _ _ (by first | exact drop_succ hd | exact drop_set hd | exact drop_setS (drop_set hd)) (by first | exact hl | simpa using hl))))) (ev_bif ev_some (ev_bif ev_some (A_rep_0 rest _ _ _ _ _ _ (by first | exact drop_succ hd | exact drop_set hd | exact drop_setS (drop_set hd)) (by first | exact hl | simpa using hl)))))))))
noncomputable def F_rep : ((List (SSt)) × Int) → Bool
  | (steps, which) => bif (↑(forest steps).length : Int) == 0 then true else bif (↑(List.length (remS (forest steps, ((forest steps).getD (place (which, (↑(forest steps).length : Int))).toNat (0, 0, 0, 0, 0, [], 0, 0, 0, 0, 0, 0, false)).2.2.1, ((forest steps).getD (place (which, (↑(forest steps).length : Int))).toNat (0, 0, 0, 0, 0, [], 0, 0, 0, 0, 0, 0, false)).2.2.2.1, ((forest steps).getD (place (which, (↑(forest steps).length : Int))).toNat (0, 0, 0, 0, 0, [], 0, 0, 0, 0, 0, 0, false)).2.2.2.2.1)).1) : Int) != IntKind.i64.wrap ((↑(forest steps).length : Int) - 1) then false else F_rep_0 (remS (forest steps, ((forest steps).getD (place (which, (↑(forest steps).length : Int))).toNat (0, 0, 0, 0, 0, [], 0, 0, 0, 0, 0, 0, false)).2.2.1, ((forest steps).getD (place (which, (↑(forest steps).length : Int))).toNat (0, 0, 0, 0, 0, [], 0, 0, 0, 0, 0, 0, false)).2.2.2.1, ((forest steps).getD (place (which, (↑(forest steps).length : Int))).toNat (0, 0, 0, 0, 0, [], 0, 0, 0, 0, 0, 0, false)).2.2.2.2.1)).1 (forest steps, (((forest steps).getD (place (which, (↑(forest steps).length : Int))).toNat (0, 0, 0, 0, 0, [], 0, 0, 0, 0, 0, 0, false)).2.2.1, ((forest steps).getD (place (which, (↑(forest steps).length : Int))).toNat (0, 0, 0, 0, 0, [], 0, 0, 0, 0, 0, 0, false)).2.2.2.1, ((forest steps).getD (place (which, (↑(forest steps).length : Int))).toNat (0, 0, 0, 0, 0, [], 0, 0, 0, 0, 0, 0, false)).2.2.2.2.1), (Go.Proofs.parS (forest steps, ((forest steps).getD (place (which, (↑(forest steps).length : Int))).toNat (0, 0, 0, 0, 0, [], 0, 0, 0, 0, 0, 0, false)).2.2.1, ((forest steps).getD (place (which, (↑(forest steps).length : Int))).toNat (0, 0, 0, 0, 0, [], 0, 0, 0, 0, 0, 0, false)).2.2.2.1, ((forest steps).getD (place (which, (↑(forest steps).length : Int))).toNat (0, 0, 0, 0, 0, [], 0, 0, 0, 0, 0, 0, false)).2.2.2.2.1)).1, (Go.Proofs.parS (forest steps, ((forest steps).getD (place (which, (↑(forest steps).length : Int))).toNat (0, 0, 0, 0, 0, [], 0, 0, 0, 0, 0, 0, false)).2.2.1, ((forest steps).getD (place (which, (↑(forest steps).length : Int))).toNat (0, 0, 0, 0, 0, [], 0, 0, 0, 0, 0, 0, false)).2.2.2.1, ((forest steps).getD (place (which, (↑(forest steps).length : Int))).toNat (0, 0, 0, 0, 0, [], 0, 0, 0, 0, 0, 0, false)).2.2.2.2.1)).2, (remS (forest steps, ((forest steps).getD (place (which, (↑(forest steps).length : Int))).toNat (0, 0, 0, 0, 0, [], 0, 0, 0, 0, 0, 0, false)).2.2.1, ((forest steps).getD (place (which, (↑(forest steps).length : Int))).toNat (0, 0, 0, 0, 0, [], 0, 0, 0, 0, 0, 0, false)).2.2.2.1, ((forest steps).getD (place (which, (↑(forest steps).length : Int))).toNat (0, 0, 0, 0, 0, [], 0, 0, 0, 0, 0, 0, false)).2.2.2.2.1)).1, 0)
noncomputable def P_rep : ((List (SSt)) × Int) → Bool
  | (steps, which) => bif (↑(forest steps).length : Int) == 0 then true else place_pre (which, (↑(forest steps).length : Int)) && (decide (0 ≤ place (which, (↑(forest steps).length : Int))) && decide (place (which, (↑(forest steps).length : Int)) < (↑(forest steps).length : Int)) && (okE (forest steps) && (Go.Proofs.parPre (forest steps, ((forest steps).getD (place (which, (↑(forest steps).length : Int))).toNat (0, 0, 0, 0, 0, [], 0, 0, 0, 0, 0, 0, false)).2.2.1, ((forest steps).getD (place (which, (↑(forest steps).length : Int))).toNat (0, 0, 0, 0, 0, [], 0, 0, 0, 0, 0, 0, false)).2.2.2.1, ((forest steps).getD (place (which, (↑(forest steps).length : Int))).toNat (0, 0, 0, 0, 0, [], 0, 0, 0, 0, 0, 0, false)).2.2.2.2.1) && (okE (forest steps) && (okF (forest steps) && bif (↑(List.length (remS (forest steps, ((forest steps).getD (place (which, (↑(forest steps).length : Int))).toNat (0, 0, 0, 0, 0, [], 0, 0, 0, 0, 0, 0, false)).2.2.1, ((forest steps).getD (place (which, (↑(forest steps).length : Int))).toNat (0, 0, 0, 0, 0, [], 0, 0, 0, 0, 0, 0, false)).2.2.2.1, ((forest steps).getD (place (which, (↑(forest steps).length : Int))).toNat (0, 0, 0, 0, 0, [], 0, 0, 0, 0, 0, 0, false)).2.2.2.2.1)).1) : Int) != IntKind.i64.wrap ((↑(forest steps).length : Int) - 1) then true else decide (List.length (remS (forest steps, ((forest steps).getD (place (which, (↑(forest steps).length : Int))).toNat (0, 0, 0, 0, 0, [], 0, 0, 0, 0, 0, 0, false)).2.2.1, ((forest steps).getD (place (which, (↑(forest steps).length : Int))).toNat (0, 0, 0, 0, 0, [], 0, 0, 0, 0, 0, 0, false)).2.2.2.1, ((forest steps).getD (place (which, (↑(forest steps).length : Int))).toNat (0, 0, 0, 0, 0, [], 0, 0, 0, 0, 0, 0, false)).2.2.2.2.1)).1 ≤ 1099511627776) && P_rep_0 (remS (forest steps, ((forest steps).getD (place (which, (↑(forest steps).length : Int))).toNat (0, 0, 0, 0, 0, [], 0, 0, 0, 0, 0, 0, false)).2.2.1, ((forest steps).getD (place (which, (↑(forest steps).length : Int))).toNat (0, 0, 0, 0, 0, [], 0, 0, 0, 0, 0, 0, false)).2.2.2.1, ((forest steps).getD (place (which, (↑(forest steps).length : Int))).toNat (0, 0, 0, 0, 0, [], 0, 0, 0, 0, 0, 0, false)).2.2.2.2.1)).1 (forest steps, (((forest steps).getD (place (which, (↑(forest steps).length : Int))).toNat (0, 0, 0, 0, 0, [], 0, 0, 0, 0, 0, 0, false)).2.2.1, ((forest steps).getD (place (which, (↑(forest steps).length : Int))).toNat (0, 0, 0, 0, 0, [], 0, 0, 0, 0, 0, 0, false)).2.2.2.1, ((forest steps).getD (place (which, (↑(forest steps).length : Int))).toNat (0, 0, 0, 0, 0, [], 0, 0, 0, 0, 0, 0, false)).2.2.2.2.1), (Go.Proofs.parS (forest steps, ((forest steps).getD (place (which, (↑(forest steps).length : Int))).toNat (0, 0, 0, 0, 0, [], 0, 0, 0, 0, 0, 0, false)).2.2.1, ((forest steps).getD (place (which, (↑(forest steps).length : Int))).toNat (0, 0, 0, 0, 0, [], 0, 0, 0, 0, 0, 0, false)).2.2.2.1, ((forest steps).getD (place (which, (↑(forest steps).length : Int))).toNat (0, 0, 0, 0, 0, [], 0, 0, 0, 0, 0, 0, false)).2.2.2.2.1)).1, (Go.Proofs.parS (forest steps, ((forest steps).getD (place (which, (↑(forest steps).length : Int))).toNat (0, 0, 0, 0, 0, [], 0, 0, 0, 0, 0, 0, false)).2.2.1, ((forest steps).getD (place (which, (↑(forest steps).length : Int))).toNat (0, 0, 0, 0, 0, [], 0, 0, 0, 0, 0, 0, false)).2.2.2.1, ((forest steps).getD (place (which, (↑(forest steps).length : Int))).toNat (0, 0, 0, 0, 0, [], 0, 0, 0, 0, 0, 0, false)).2.2.2.2.1)).2, (remS (forest steps, ((forest steps).getD (place (which, (↑(forest steps).length : Int))).toNat (0, 0, 0, 0, 0, [], 0, 0, 0, 0, 0, 0, false)).2.2.1, ((forest steps).getD (place (which, (↑(forest steps).length : Int))).toNat (0, 0, 0, 0, 0, [], 0, 0, 0, 0, 0, 0, false)).2.2.2.1, ((forest steps).getD (place (which, (↑(forest steps).length : Int))).toNat (0, 0, 0, 0, 0, [], 0, 0, 0, 0, 0, 0, false)).2.2.2.2.1)).1, 0))))))
theorem rep_auto : ∀ a : (List (SSt)) × Int, Rns (fun f => M_rep f a) (P_rep a) (F_rep a)
  | (steps, which) => ev_step (fun f => M_rep_eq f _ _) (ev_bif ev_some (ev_chk (ev_chk (ev_chk (ev_chk (ev_chk (ev_chk (ev_bif ev_some (ev_and fun hh => A_rep_0 _ _ _ _ _ _ _ rfl (of_decide_eq_true hh))))))))))
theorem live_iff (l : List SEn) (t : SId) : findE l t ≥ 0 ↔ ∃ y ∈ l, eid y = t := by
  constructor
  · intro h
    obtain ⟨j, x, e1, e2, e3, _⟩ := findI_some (p := fun e : SEn => decide (eid e = t)) (l := l) (k := 0) (by omega) h
    exact ⟨x, List.mem_of_getElem? e2, by simpa using e3⟩
  · rintro ⟨y, hy, he⟩
    exact (findE_at hy he).1
theorem parS_mem {l : List SEn} (hs : l.Pairwise (fun a b => lessI (eid a, eid b) = true)) {u : SEn} (hu : u ∈ l) : parS (l, eid u) = lastIn l (epath u).reverse := by
  obtain ⟨f1, f2, x, f3, f4, f5⟩ := findE_at hu rfl
  have hx : x = u := sorted_uniq hs f3 hu f4
  rw [hx] at f5
  have f5 : l.getD (findE l (eid u)).toNat zE = u := f5
  simp only [parS, decide_eq_true (show findE l (eid u) ≥ 0 from f1), cond_true, f5]
theorem lastIn_spec (l : List SEn) : ∀ q : List SId, (∃ a p c, q = a ++ p :: c ∧ (∀ y ∈ a, findE l y < 0) ∧ findE l p ≥ 0 ∧ lastIn l q = (p, true)) ∨ ((∀ y ∈ q, findE l y < 0) ∧ lastIn l q = ((0, 0, 0), false))
  | [] => .inr ⟨fun y hy => (by cases hy), rfl⟩
  | x :: q => by
    by_cases hx : findE l x ≥ 0
    · exact .inl ⟨[], x, q, rfl, fun y hy => (by cases hy), hx, by simp only [lastIn, decide_eq_true hx]; rfl⟩
    · have e : lastIn l (x :: q) = lastIn l q := by simp only [lastIn, decide_eq_false hx]; rfl
      rcases lastIn_spec l q with ⟨a, p, c, h1, h2, h3, h4⟩ | ⟨h1, h2⟩
      · refine .inl ⟨x :: a, p, c, by rw [h1]; rfl, fun y hy => ?_, h3, by rw [e, h4]⟩
        rcases List.mem_cons.1 hy with rfl | hy
        · omega
        · exact h2 y hy
      · refine .inr ⟨fun y hy => ?_, by rw [e, h2]⟩
        rcases List.mem_cons.1 hy with rfl | hy
        · omega
        · exact h1 y hy
theorem remS_split {l : List SEn} (hs : l.Pairwise (fun a b => lessI (eid a, eid b) = true)) {g : SEn} (hg : g ∈ l) : ∃ p q, l = p ++ g :: q ∧ remS (l, eid g) = (p ++ q, true) := by
  obtain ⟨f1, f2, x, f3, f4, f5⟩ := findE_at hg rfl
  have hx : x = g := sorted_uniq hs f3 hg f4
  rw [hx] at f5
  have hrem : remS (l, eid g) = (l.take (findE l (eid g)).toNat ++ l.drop ((findE l (eid g)).toNat + 1), true) := by
    simp only [remS, decide_eq_true (show findE l (eid g) ≥ 0 from f1)]; rfl
  have hlt : (findE l (eid g)).toNat < l.length := by omega
  rw [hrem]
  generalize (findE l (eid g)).toNat = n at hlt f5 ⊢
  refine ⟨l.take n, l.drop (n + 1), ?_, rfl⟩
  rw [List.getD_eq_getElem?_getD, List.getElem?_eq_getElem hlt] at f5
  have f5 : l[n] = g := f5
  have := List.take_append_drop n l
  rw [List.drop_eq_getElem_cons hlt, f5] at this
  exact this.symm
theorem live_rem {p q : List SEn} {g : SEn} (hs : (p ++ g :: q).Pairwise (fun a b => lessI (eid a, eid b) = true)) (t : SId) : findE (p ++ q) t ≥ 0 ↔ findE (p ++ g :: q) t ≥ 0 ∧ t ≠ eid g := by
  rw [live_iff, live_iff]
  have hne : ∀ y ∈ p ++ q, eid y ≠ eid g := fun y hy e => by
    rw [List.pairwise_append, List.pairwise_cons] at hs
    rcases List.mem_append.1 hy with hy | hy
    · have := hs.2.2 y hy g (List.mem_cons_self ..); rw [e, less_irrefl] at this; cases this
    · have := hs.2.1.1 y hy; rw [e, less_irrefl] at this; cases this
  constructor
  · rintro ⟨y, hy, rfl⟩
    refine ⟨⟨y, ?_, rfl⟩, hne y hy⟩
    rcases List.mem_append.1 hy with hy | hy
    · exact List.mem_append_left _ hy
    · exact List.mem_append_right _ (List.mem_cons_of_mem _ hy)
  · rintro ⟨⟨y, hy, rfl⟩, hn⟩
    rcases List.mem_append.1 hy with hy | hy
    · exact ⟨y, List.mem_append_left _ hy, rfl⟩
    · rcases List.mem_cons.1 hy with rfl | hy
      · exact absurd rfl hn
      · exact ⟨y, List.mem_append_right _ hy, rfl⟩
theorem lastIn_congr {l x : List SEn} : ∀ q : List SId, (∀ t ∈ q, (findE l t ≥ 0 ↔ findE x t ≥ 0)) → lastIn l q = lastIn x q
  | [], _ => rfl
  | t :: q, h => by
    have h1 := h t (List.mem_cons_self ..)
    simp only [lastIn, lastIn_congr q (fun z hz => h z (List.mem_cons_of_mem _ hz)), decide_eq_decide.2 h1]
theorem lastIn_skip (l : List SEn) (r : List SId) : ∀ a : List SId, (∀ y ∈ a, findE l y < 0) → lastIn l (a ++ r) = lastIn l r
  | [], _ => rfl
  | y :: a, h => by
    simp only [List.cons_append, lastIn, decide_eq_false (show ¬ findE l y ≥ 0 by have := h y (List.mem_cons_self ..); omega), cond_false]
    exact lastIn_skip l r a (fun z hz => h z (List.mem_cons_of_mem _ hz))
theorem rep_core {m : Int} {p q : List SEn} {g : SEn} (h : Vf m (p ++ g :: q)) {u : SEn} (hu : u ∈ p ++ q) :
    ((parS (p ++ g :: q, eid u)).2 = true → (parS (p ++ g :: q, eid u)).1 = eid g → parS (p ++ g :: q, eid g) = parS (p ++ q, eid u)) ∧
    (((parS (p ++ g :: q, eid u)).2 = true → (parS (p ++ g :: q, eid u)).1 ≠ eid g) → parS (p ++ g :: q, eid u) = parS (p ++ q, eid u)) := by
  have hs := h.sorted
  have hsub : (p ++ q).Sublist (p ++ g :: q) := (List.Sublist.refl p).append (List.sublist_cons_self g q)
  have hul : u ∈ p ++ g :: q := hsub.subset hu
  have hgl : g ∈ p ++ g :: q := by simp
  rw [parS_mem hs hul, parS_mem hs hgl, parS_mem (hs.sublist hsub) hu]
  have hlive := live_rem hs
  rcases lastIn_spec (p ++ g :: q) (epath u).reverse with ⟨a, t, c, h1, h2, h3, h4⟩ | ⟨h1, h2⟩
  · have ha : ∀ y ∈ a, findE (p ++ q) y < 0 := fun y hy => by
      have := h2 y hy
      have h5 : ¬ findE (p ++ q) y ≥ 0 := fun h6 => by have := ((hlive y).1 h6).1; omega
      omega
    rw [h4]
    refine ⟨fun _ ht => ?_, fun ht => ?_⟩
    · have ht : t = eid g := ht
      subst ht
      have hpu : epath u = c.reverse ++ eid g :: a.reverse := by rw [← List.reverse_reverse (epath u), h1]; simp
      have hk : (epath u)[c.length]? = some (eid g) := by rw [hpu]; simp
      have hpg := (h.anc g hgl u hul _ hk).1
      rw [hpu, show c.length = c.reverse.length by simp, List.take_left] at hpg
      rw [h1, lastIn_skip (p ++ q) _ a ha, hpg, List.reverse_reverse]
      have hnd := ((vnodB_iff _).1 (h.node u hul)).2.2.2.2.1
      have hnd : (epath u).Nodup := hnd
      rw [hpu, List.nodup_append] at hnd
      have hg : ¬ findE (p ++ q) (eid g) ≥ 0 := fun h6 => ((hlive (eid g)).1 h6).2 rfl
      have e : lastIn (p ++ q) (eid g :: c) = lastIn (p ++ q) c := by simp only [lastIn, decide_eq_false hg]; rfl
      rw [e]
      refine lastIn_congr c fun z hz => ?_
      rw [hlive z]
      have hzg : z ≠ eid g := hnd.2.2 z (by simpa using hz) (eid g) (List.mem_cons_self ..)
      exact ⟨fun h => ⟨h, hzg⟩, fun h => h.1⟩
    · have ht : t ≠ eid g := ht rfl
      rw [h1]
      exact (lastIn_app (p ++ q) t c a ha ((hlive t).2 ⟨h3, ht⟩)).symm
  · have hx : lastIn (p ++ q) (epath u).reverse = ((0, 0, 0), false) := lastIn_none _ _ fun y hy => by
      have := h1 y hy
      have h5 : ¬ findE (p ++ q) y ≥ 0 := fun h6 => by have := ((hlive y).1 h6).1; omega
      omega
    rw [h2, hx]
    exact ⟨fun h => (by cases h), fun _ => rfl⟩
theorem rep_0 {m : Int} {p q : List SEn} {g : SEn} (h : Vf m (p ++ g :: q)) (hl : (p ++ g :: q).length ≤ 900) : ∀ (r : List SEn) (k : Nat), (∀ u ∈ r, u ∈ p ++ q) →
    F_rep_0 r (p ++ g :: q, eid g, (parS (p ++ g :: q, eid g)).1, (parS (p ++ g :: q, eid g)).2, p ++ q, k) = true ∧ P_rep_0 r (p ++ g :: q, eid g, (parS (p ++ g :: q, eid g)).1, (parS (p ++ g :: q, eid g)).2, p ++ q, k) = true
  | [], k, hr => ⟨rfl, rfl⟩
  | u :: r, k, hr => by
    obtain ⟨i1, i2⟩ := rep_0 h hl r (k + 1) (fun z hz => hr z (List.mem_cons_of_mem _ hz))
    have hu := hr u (List.mem_cons_self ..)
    obtain ⟨c1, c2⟩ := rep_core h hu
    have hsub : (p ++ q).Sublist (p ++ g :: q) := (List.Sublist.refl p).append (List.sublist_cons_self g q)
    have hE := okE_vf h (by omega)
    have hlx := hsub.length_le
    have hEx : okE (p ++ q) = true := okE_mk (by omega) (fun e he => okE_mem hE (hsub.subset he))
    have hp1 : ∀ id, parPre (p ++ g :: q, id) = true := fun id => by
      simp only [parPre, Bool.and_eq_true, List.all_eq_true]
      exact ⟨decide_eq_true (by omega), fun e he => decide_eq_true (by have := h.path he; omega)⟩
    have hp2 : ∀ id, parPre (p ++ q, id) = true := fun id => by
      simp only [parPre, Bool.and_eq_true, List.all_eq_true]
      exact ⟨decide_eq_true (by omega), fun e he => decide_eq_true (by have := h.path (hsub.subset he); omega)⟩
    have ei : ((u.2.2.1, u.2.2.2.1, u.2.2.2.2.1) : SId) = eid u := rfl
    have eq3 : ∀ a b : SId, (a.1 == b.1 && (a.2.1 == b.2.1 && (a.2.2 == b.2.2 && true))) = decide (a = b) := id_eq
    simp only [F_rep_0, P_rep_0, ei, eq3, hE, hEx, hp1, hp2, i1, i2, Bool.true_and]
    generalize parS (p ++ g :: q, eid u) = A at *
    generalize parS (p ++ q, eid u) = B at *
    generalize parS (p ++ g :: q, eid g) = C at *
    cases hA : A.2
    · have hAB := c2 (fun h => by rw [hA] at h; cases h)
      rw [← hAB, hA]; simp
    · by_cases hg : A.1 = eid g
      · have hCB := c1 hA hg
        rw [decide_eq_true hg, hCB]; simp
      · have hAB := c2 (fun _ => hg)
        rw [decide_eq_false hg, ← hAB, hA]; simp
theorem rep_true : ∀ a : List SSt × Int, ∃ f, M_rep f a = some true := by
  rintro ⟨steps, which⟩
  obtain ⟨hv, hlen⟩ := forest_vf steps
  have key : P_rep (steps, which) = true ∧ F_rep (steps, which) = true := by
    have hE : okE (forest steps) = true := okE_vf hv (by omega)
    have hF : okF (forest steps) = true := by simp only [okF, Bool.and_eq_true]; exact ⟨decide_eq_true (by omega), hE⟩
    simp only [P_rep, F_rep, hE, hF, Bool.true_and]
    generalize forest steps = l at hv hlen hE ⊢
    cases h0 : (((l.length : Nat) : Int) == 0)
    case true => exact ⟨rfl, rfl⟩
    simp only [cond_false]
    have hpos : 0 < l.length := by
      have : ¬ ((l.length : Nat) : Int) = 0 := by simpa using h0
      omega
    have kp := place_range which (s := ((l.length : Nat) : Int)) (by omega)
    have hpp : place_pre (which, ((l.length : Nat) : Int)) = true := decide_eq_true (by show ((l.length : Nat) : Int) ≤ _; omega)
    have hm : l.getD (place (which, ((l.length : Nat) : Int))).toNat (0, 0, 0, 0, 0, [], 0, 0, 0, 0, 0, 0, false) ∈ l := by
      rw [List.getD_eq_getElem?_getD, List.getElem?_eq_getElem (by omega)]
      exact List.getElem_mem _
    rw [hpp, decide_eq_true kp.1, decide_eq_true kp.2]
    generalize l.getD (place (which, ((l.length : Nat) : Int))).toNat (0, 0, 0, 0, 0, [], 0, 0, 0, 0, 0, 0, false) = e at hm ⊢
    have ei : ((e.2.2.1, e.2.2.2.1, e.2.2.2.2.1) : SId) = eid e := rfl
    have hp1 : parPre (l, eid e) = true := by
      simp only [parPre, Bool.and_eq_true, List.all_eq_true]
      exact ⟨decide_eq_true (by omega), fun e he => decide_eq_true (by have := hv.path he; omega)⟩
    obtain ⟨p, q, hpq, hr⟩ := remS_split hv.sorted hm
    rw [ei, hp1, hr]
    have w1 : IntKind.i64.wrap (((l.length : Nat) : Int) - 1) = ((l.length : Nat) : Int) - 1 := i64_id (by omega) (by omega)
    have hlp : (p ++ q).length + 1 = l.length := by rw [hpq]; simp; omega
    have n1 : ((((p ++ q).length : Nat) : Int) != ((l.length : Nat) : Int) - 1) = false := by
      rw [bne_eq_false_iff_eq]; omega
    have key := rep_0 (hpq ▸ hv) (by rw [← hpq]; omega) (p ++ q) 0 (fun u hu => hu)
    rw [← hpq] at key
    simp only [w1, n1, cond_false, key.1, key.2, decide_eq_true (show (p ++ q).length ≤ 1099511627776 by omega), Bool.true_and, Bool.and_self]
    exact ⟨trivial, trivial⟩
  have := rep_auto (steps, which) key.1
  rw [key.2] at this; exact this
end Go.AL
