/-
  How forests are made: contracts, and that they are valid. By an AI agent.
-/
import Derived.Test.YteppokgkagjklaaF1
namespace Go.AL
open Go.Proofs
set_option linter.unusedVariables false
set_option linter.unusedSimpArgs false
abbrev tSSt : List Ty := [.bool, .int .i64, .int .i64, .int .i64, .int .i64, .int .i64, .int .i64, .int .i64, .int .i64, .bool]
abbrev SSt := Bool × Int × Int × Int × Int × Int × Int × Int × Int × Bool
noncomputable def F_grow_0 : List (SCp) → ((List (SEn)) × Int × Int × Int × SNd × (List (SCp)) × Nat) → (List (SEn))
  | [], (l, op, core, slot, src, caps, i) => l
  | uu :: rest, (l, op, core, slot, src, caps, i) => bif (chlS (src, (core, op, (↑i : Int)), uu)).2 != 0 then l else F_grow_0 rest (addS (l, core, IntKind.i64.wrap (slot + (↑i : Int)), (chlS (src, (core, op, (↑i : Int)), uu)).1), op, core, slot, src, caps, i + 1)
noncomputable def P_grow_0 : List (SCp) → ((List (SEn)) × Int × Int × Int × SNd × (List (SCp)) × Nat) → Bool
  | [], (l, op, core, slot, src, caps, i) => true
  | uu :: rest, (l, op, core, slot, src, caps, i) => bif (chlS (src, (core, op, (↑i : Int)), uu)).2 != 0 then true else addPre (l, core, IntKind.i64.wrap (slot + (↑i : Int)), (chlS (src, (core, op, (↑i : Int)), uu)).1) && P_grow_0 rest (addS (l, core, IntKind.i64.wrap (slot + (↑i : Int)), (chlS (src, (core, op, (↑i : Int)), uu)).1), op, core, slot, src, caps, i + 1)
noncomputable def F_grow : ((List (SEn)) × SSt × Int) → (List (SEn))
  | (l, s, op) => bif s.1 then bif cnfS (l, (0, 0, 0), [untS (s.2.2.2.2.2.1, s.2.2.2.2.2.2.1)]) then l else addS (l, place (s.2.2.1, 4), place (s.2.2.2.1, 8), place (s.2.2.1, 4), op, 0, [], untS (s.2.2.2.2.2.1, s.2.2.2.2.2.2.1)) else bif (↑l.length : Int) == 0 then bif cnfS (l, (0, 0, 0), [untS (s.2.2.2.2.2.1, s.2.2.2.2.2.2.1)]) then l else addS (l, place (s.2.2.1, 4), place (s.2.2.2.1, 8), place (s.2.2.1, 4), op, 0, [], untS (s.2.2.2.2.2.1, s.2.2.2.2.2.2.1)) else bif !s.2.2.2.2.2.2.2.2.2 then bif (retS ((l.getD (place (s.2.1, (↑l.length : Int))).toNat (0, 0, 0, 0, 0, [], 0, 0, 0, 0, 0, 0, false)).2.2.2.2.2.2, IntKind.i64.wrap (1 + place (s.2.2.2.2.1, 6)), [IntKind.i64.wrap (6 + place (s.2.2.2.2.2.2.1, 10)), 12, 12, 6, 10, 16].getD (IntKind.i64.wrap (IntKind.i64.wrap (1 + place (s.2.2.2.2.1, 6)) - 1)).toNat 0, place (s.2.2.2.2.2.2.2.2.1, 2), 32, IntKind.i64.wrap (place (s.2.2.2.2.2.1, 8) * 2 ^ min (IntKind.u64.wrap ([IntKind.i64.wrap (6 + place (s.2.2.2.2.2.2.1, 10)), 12, 12, 6, 10, 16].getD (IntKind.i64.wrap (IntKind.i64.wrap (1 + place (s.2.2.2.2.1, 6)) - 1)).toNat 0)).toNat IntKind.i64.bits), IntKind.i64.wrap (1 + place (s.2.2.2.2.2.2.2.1, 3)))).2 != 0 then l else bif cnfS (l, ((l.getD (place (s.2.1, (↑l.length : Int))).toNat (0, 0, 0, 0, 0, [], 0, 0, 0, 0, 0, 0, false)).2.2.1, (l.getD (place (s.2.1, (↑l.length : Int))).toNat (0, 0, 0, 0, 0, [], 0, 0, 0, 0, 0, 0, false)).2.2.2.1, (l.getD (place (s.2.1, (↑l.length : Int))).toNat (0, 0, 0, 0, 0, [], 0, 0, 0, 0, 0, 0, false)).2.2.2.2.1), (retS ((l.getD (place (s.2.1, (↑l.length : Int))).toNat (0, 0, 0, 0, 0, [], 0, 0, 0, 0, 0, 0, false)).2.2.2.2.2.2, IntKind.i64.wrap (1 + place (s.2.2.2.2.1, 6)), [IntKind.i64.wrap (6 + place (s.2.2.2.2.2.2.1, 10)), 12, 12, 6, 10, 16].getD (IntKind.i64.wrap (IntKind.i64.wrap (1 + place (s.2.2.2.2.1, 6)) - 1)).toNat 0, place (s.2.2.2.2.2.2.2.2.1, 2), 32, IntKind.i64.wrap (place (s.2.2.2.2.2.1, 8) * 2 ^ min (IntKind.u64.wrap ([IntKind.i64.wrap (6 + place (s.2.2.2.2.2.2.1, 10)), 12, 12, 6, 10, 16].getD (IntKind.i64.wrap (IntKind.i64.wrap (1 + place (s.2.2.2.2.1, 6)) - 1)).toNat 0)).toNat IntKind.i64.bits), IntKind.i64.wrap (1 + place (s.2.2.2.2.2.2.2.1, 3)))).1) then l else F_grow_0 (retS ((l.getD (place (s.2.1, (↑l.length : Int))).toNat (0, 0, 0, 0, 0, [], 0, 0, 0, 0, 0, 0, false)).2.2.2.2.2.2, IntKind.i64.wrap (1 + place (s.2.2.2.2.1, 6)), [IntKind.i64.wrap (6 + place (s.2.2.2.2.2.2.1, 10)), 12, 12, 6, 10, 16].getD (IntKind.i64.wrap (IntKind.i64.wrap (1 + place (s.2.2.2.2.1, 6)) - 1)).toNat 0, place (s.2.2.2.2.2.2.2.2.1, 2), 32, IntKind.i64.wrap (place (s.2.2.2.2.2.1, 8) * 2 ^ min (IntKind.u64.wrap ([IntKind.i64.wrap (6 + place (s.2.2.2.2.2.2.1, 10)), 12, 12, 6, 10, 16].getD (IntKind.i64.wrap (IntKind.i64.wrap (1 + place (s.2.2.2.2.1, 6)) - 1)).toNat 0)).toNat IntKind.i64.bits), IntKind.i64.wrap (1 + place (s.2.2.2.2.2.2.2.1, 3)))).1 (l, op, place (s.2.2.1, 4), place (s.2.2.2.1, 8), ((l.getD (place (s.2.1, (↑l.length : Int))).toNat (0, 0, 0, 0, 0, [], 0, 0, 0, 0, 0, 0, false)).2.2.1, (l.getD (place (s.2.1, (↑l.length : Int))).toNat (0, 0, 0, 0, 0, [], 0, 0, 0, 0, 0, 0, false)).2.2.2.1, (l.getD (place (s.2.1, (↑l.length : Int))).toNat (0, 0, 0, 0, 0, [], 0, 0, 0, 0, 0, 0, false)).2.2.2.2.1, (l.getD (place (s.2.1, (↑l.length : Int))).toNat (0, 0, 0, 0, 0, [], 0, 0, 0, 0, 0, 0, false)).2.2.2.2.2.1, (l.getD (place (s.2.1, (↑l.length : Int))).toNat (0, 0, 0, 0, 0, [], 0, 0, 0, 0, 0, 0, false)).2.2.2.2.2.2), (retS ((l.getD (place (s.2.1, (↑l.length : Int))).toNat (0, 0, 0, 0, 0, [], 0, 0, 0, 0, 0, 0, false)).2.2.2.2.2.2, IntKind.i64.wrap (1 + place (s.2.2.2.2.1, 6)), [IntKind.i64.wrap (6 + place (s.2.2.2.2.2.2.1, 10)), 12, 12, 6, 10, 16].getD (IntKind.i64.wrap (IntKind.i64.wrap (1 + place (s.2.2.2.2.1, 6)) - 1)).toNat 0, place (s.2.2.2.2.2.2.2.2.1, 2), 32, IntKind.i64.wrap (place (s.2.2.2.2.2.1, 8) * 2 ^ min (IntKind.u64.wrap ([IntKind.i64.wrap (6 + place (s.2.2.2.2.2.2.1, 10)), 12, 12, 6, 10, 16].getD (IntKind.i64.wrap (IntKind.i64.wrap (1 + place (s.2.2.2.2.1, 6)) - 1)).toNat 0)).toNat IntKind.i64.bits), IntKind.i64.wrap (1 + place (s.2.2.2.2.2.2.2.1, 3)))).1, 0) else F_grow_0 [F_ratt ((l.getD (place (s.2.1, (↑l.length : Int))).toNat (0, 0, 0, 0, 0, [], 0, 0, 0, 0, 0, 0, false)).2.2.2.2.2.2, place (s.2.2.2.2.2.2.2.2.1, 8))] (l, op, place (s.2.2.1, 4), place (s.2.2.2.1, 8), ((l.getD (place (s.2.1, (↑l.length : Int))).toNat (0, 0, 0, 0, 0, [], 0, 0, 0, 0, 0, 0, false)).2.2.1, (l.getD (place (s.2.1, (↑l.length : Int))).toNat (0, 0, 0, 0, 0, [], 0, 0, 0, 0, 0, 0, false)).2.2.2.1, (l.getD (place (s.2.1, (↑l.length : Int))).toNat (0, 0, 0, 0, 0, [], 0, 0, 0, 0, 0, 0, false)).2.2.2.2.1, (l.getD (place (s.2.1, (↑l.length : Int))).toNat (0, 0, 0, 0, 0, [], 0, 0, 0, 0, 0, 0, false)).2.2.2.2.2.1, (l.getD (place (s.2.1, (↑l.length : Int))).toNat (0, 0, 0, 0, 0, [], 0, 0, 0, 0, 0, 0, false)).2.2.2.2.2.2), [F_ratt ((l.getD (place (s.2.1, (↑l.length : Int))).toNat (0, 0, 0, 0, 0, [], 0, 0, 0, 0, 0, 0, false)).2.2.2.2.2.2, place (s.2.2.2.2.2.2.2.2.1, 8))], 0)
noncomputable def P_grow : ((List (SEn)) × SSt × Int) → Bool
  | (l, s, op) => bif s.1 then cnfPre (l, (0, 0, 0), [untS (s.2.2.2.2.2.1, s.2.2.2.2.2.2.1)]) && bif cnfS (l, (0, 0, 0), [untS (s.2.2.2.2.2.1, s.2.2.2.2.2.2.1)]) then true else addPre (l, place (s.2.2.1, 4), place (s.2.2.2.1, 8), place (s.2.2.1, 4), op, 0, [], untS (s.2.2.2.2.2.1, s.2.2.2.2.2.2.1)) else bif (↑l.length : Int) == 0 then cnfPre (l, (0, 0, 0), [untS (s.2.2.2.2.2.1, s.2.2.2.2.2.2.1)]) && bif cnfS (l, (0, 0, 0), [untS (s.2.2.2.2.2.1, s.2.2.2.2.2.2.1)]) then true else addPre (l, place (s.2.2.1, 4), place (s.2.2.2.1, 8), place (s.2.2.1, 4), op, 0, [], untS (s.2.2.2.2.2.1, s.2.2.2.2.2.2.1)) else place_pre (s.2.1, (↑l.length : Int)) && (decide (0 ≤ place (s.2.1, (↑l.length : Int))) && decide (place (s.2.1, (↑l.length : Int)) < (↑l.length : Int)) && bif !s.2.2.2.2.2.2.2.2.2 then decide (0 ≤ IntKind.i64.wrap (IntKind.i64.wrap (1 + place (s.2.2.2.2.1, 6)) - 1)) && decide (IntKind.i64.wrap (IntKind.i64.wrap (1 + place (s.2.2.2.2.1, 6)) - 1) < (↑[IntKind.i64.wrap (6 + place (s.2.2.2.2.2.2.1, 10)), 12, 12, 6, 10, 16].length : Int)) && (decide (0 ≤ IntKind.u64.wrap ([IntKind.i64.wrap (6 + place (s.2.2.2.2.2.2.1, 10)), 12, 12, 6, 10, 16].getD (IntKind.i64.wrap (IntKind.i64.wrap (1 + place (s.2.2.2.2.1, 6)) - 1)).toNat 0)) && bif (retS ((l.getD (place (s.2.1, (↑l.length : Int))).toNat (0, 0, 0, 0, 0, [], 0, 0, 0, 0, 0, 0, false)).2.2.2.2.2.2, IntKind.i64.wrap (1 + place (s.2.2.2.2.1, 6)), [IntKind.i64.wrap (6 + place (s.2.2.2.2.2.2.1, 10)), 12, 12, 6, 10, 16].getD (IntKind.i64.wrap (IntKind.i64.wrap (1 + place (s.2.2.2.2.1, 6)) - 1)).toNat 0, place (s.2.2.2.2.2.2.2.2.1, 2), 32, IntKind.i64.wrap (place (s.2.2.2.2.2.1, 8) * 2 ^ min (IntKind.u64.wrap ([IntKind.i64.wrap (6 + place (s.2.2.2.2.2.2.1, 10)), 12, 12, 6, 10, 16].getD (IntKind.i64.wrap (IntKind.i64.wrap (1 + place (s.2.2.2.2.1, 6)) - 1)).toNat 0)).toNat IntKind.i64.bits), IntKind.i64.wrap (1 + place (s.2.2.2.2.2.2.2.1, 3)))).2 != 0 then true else cnfPre (l, ((l.getD (place (s.2.1, (↑l.length : Int))).toNat (0, 0, 0, 0, 0, [], 0, 0, 0, 0, 0, 0, false)).2.2.1, (l.getD (place (s.2.1, (↑l.length : Int))).toNat (0, 0, 0, 0, 0, [], 0, 0, 0, 0, 0, 0, false)).2.2.2.1, (l.getD (place (s.2.1, (↑l.length : Int))).toNat (0, 0, 0, 0, 0, [], 0, 0, 0, 0, 0, 0, false)).2.2.2.2.1), (retS ((l.getD (place (s.2.1, (↑l.length : Int))).toNat (0, 0, 0, 0, 0, [], 0, 0, 0, 0, 0, 0, false)).2.2.2.2.2.2, IntKind.i64.wrap (1 + place (s.2.2.2.2.1, 6)), [IntKind.i64.wrap (6 + place (s.2.2.2.2.2.2.1, 10)), 12, 12, 6, 10, 16].getD (IntKind.i64.wrap (IntKind.i64.wrap (1 + place (s.2.2.2.2.1, 6)) - 1)).toNat 0, place (s.2.2.2.2.2.2.2.2.1, 2), 32, IntKind.i64.wrap (place (s.2.2.2.2.2.1, 8) * 2 ^ min (IntKind.u64.wrap ([IntKind.i64.wrap (6 + place (s.2.2.2.2.2.2.1, 10)), 12, 12, 6, 10, 16].getD (IntKind.i64.wrap (IntKind.i64.wrap (1 + place (s.2.2.2.2.1, 6)) - 1)).toNat 0)).toNat IntKind.i64.bits), IntKind.i64.wrap (1 + place (s.2.2.2.2.2.2.2.1, 3)))).1) && bif cnfS (l, ((l.getD (place (s.2.1, (↑l.length : Int))).toNat (0, 0, 0, 0, 0, [], 0, 0, 0, 0, 0, 0, false)).2.2.1, (l.getD (place (s.2.1, (↑l.length : Int))).toNat (0, 0, 0, 0, 0, [], 0, 0, 0, 0, 0, 0, false)).2.2.2.1, (l.getD (place (s.2.1, (↑l.length : Int))).toNat (0, 0, 0, 0, 0, [], 0, 0, 0, 0, 0, 0, false)).2.2.2.2.1), (retS ((l.getD (place (s.2.1, (↑l.length : Int))).toNat (0, 0, 0, 0, 0, [], 0, 0, 0, 0, 0, 0, false)).2.2.2.2.2.2, IntKind.i64.wrap (1 + place (s.2.2.2.2.1, 6)), [IntKind.i64.wrap (6 + place (s.2.2.2.2.2.2.1, 10)), 12, 12, 6, 10, 16].getD (IntKind.i64.wrap (IntKind.i64.wrap (1 + place (s.2.2.2.2.1, 6)) - 1)).toNat 0, place (s.2.2.2.2.2.2.2.2.1, 2), 32, IntKind.i64.wrap (place (s.2.2.2.2.2.1, 8) * 2 ^ min (IntKind.u64.wrap ([IntKind.i64.wrap (6 + place (s.2.2.2.2.2.2.1, 10)), 12, 12, 6, 10, 16].getD (IntKind.i64.wrap (IntKind.i64.wrap (1 + place (s.2.2.2.2.1, 6)) - 1)).toNat 0)).toNat IntKind.i64.bits), IntKind.i64.wrap (1 + place (s.2.2.2.2.2.2.2.1, 3)))).1) then true else decide (List.length (retS ((l.getD (place (s.2.1, (↑l.length : Int))).toNat (0, 0, 0, 0, 0, [], 0, 0, 0, 0, 0, 0, false)).2.2.2.2.2.2, IntKind.i64.wrap (1 + place (s.2.2.2.2.1, 6)), [IntKind.i64.wrap (6 + place (s.2.2.2.2.2.2.1, 10)), 12, 12, 6, 10, 16].getD (IntKind.i64.wrap (IntKind.i64.wrap (1 + place (s.2.2.2.2.1, 6)) - 1)).toNat 0, place (s.2.2.2.2.2.2.2.2.1, 2), 32, IntKind.i64.wrap (place (s.2.2.2.2.2.1, 8) * 2 ^ min (IntKind.u64.wrap ([IntKind.i64.wrap (6 + place (s.2.2.2.2.2.2.1, 10)), 12, 12, 6, 10, 16].getD (IntKind.i64.wrap (IntKind.i64.wrap (1 + place (s.2.2.2.2.1, 6)) - 1)).toNat 0)).toNat IntKind.i64.bits), IntKind.i64.wrap (1 + place (s.2.2.2.2.2.2.2.1, 3)))).1 ≤ 1099511627776) && P_grow_0 (retS ((l.getD (place (s.2.1, (↑l.length : Int))).toNat (0, 0, 0, 0, 0, [], 0, 0, 0, 0, 0, 0, false)).2.2.2.2.2.2, IntKind.i64.wrap (1 + place (s.2.2.2.2.1, 6)), [IntKind.i64.wrap (6 + place (s.2.2.2.2.2.2.1, 10)), 12, 12, 6, 10, 16].getD (IntKind.i64.wrap (IntKind.i64.wrap (1 + place (s.2.2.2.2.1, 6)) - 1)).toNat 0, place (s.2.2.2.2.2.2.2.2.1, 2), 32, IntKind.i64.wrap (place (s.2.2.2.2.2.1, 8) * 2 ^ min (IntKind.u64.wrap ([IntKind.i64.wrap (6 + place (s.2.2.2.2.2.2.1, 10)), 12, 12, 6, 10, 16].getD (IntKind.i64.wrap (IntKind.i64.wrap (1 + place (s.2.2.2.2.1, 6)) - 1)).toNat 0)).toNat IntKind.i64.bits), IntKind.i64.wrap (1 + place (s.2.2.2.2.2.2.2.1, 3)))).1 (l, op, place (s.2.2.1, 4), place (s.2.2.2.1, 8), ((l.getD (place (s.2.1, (↑l.length : Int))).toNat (0, 0, 0, 0, 0, [], 0, 0, 0, 0, 0, 0, false)).2.2.1, (l.getD (place (s.2.1, (↑l.length : Int))).toNat (0, 0, 0, 0, 0, [], 0, 0, 0, 0, 0, 0, false)).2.2.2.1, (l.getD (place (s.2.1, (↑l.length : Int))).toNat (0, 0, 0, 0, 0, [], 0, 0, 0, 0, 0, 0, false)).2.2.2.2.1, (l.getD (place (s.2.1, (↑l.length : Int))).toNat (0, 0, 0, 0, 0, [], 0, 0, 0, 0, 0, 0, false)).2.2.2.2.2.1, (l.getD (place (s.2.1, (↑l.length : Int))).toNat (0, 0, 0, 0, 0, [], 0, 0, 0, 0, 0, 0, false)).2.2.2.2.2.2), (retS ((l.getD (place (s.2.1, (↑l.length : Int))).toNat (0, 0, 0, 0, 0, [], 0, 0, 0, 0, 0, 0, false)).2.2.2.2.2.2, IntKind.i64.wrap (1 + place (s.2.2.2.2.1, 6)), [IntKind.i64.wrap (6 + place (s.2.2.2.2.2.2.1, 10)), 12, 12, 6, 10, 16].getD (IntKind.i64.wrap (IntKind.i64.wrap (1 + place (s.2.2.2.2.1, 6)) - 1)).toNat 0, place (s.2.2.2.2.2.2.2.2.1, 2), 32, IntKind.i64.wrap (place (s.2.2.2.2.2.1, 8) * 2 ^ min (IntKind.u64.wrap ([IntKind.i64.wrap (6 + place (s.2.2.2.2.2.2.1, 10)), 12, 12, 6, 10, 16].getD (IntKind.i64.wrap (IntKind.i64.wrap (1 + place (s.2.2.2.2.1, 6)) - 1)).toNat 0)).toNat IntKind.i64.bits), IntKind.i64.wrap (1 + place (s.2.2.2.2.2.2.2.1, 3)))).1, 0)) else decide ([F_ratt ((l.getD (place (s.2.1, (↑l.length : Int))).toNat (0, 0, 0, 0, 0, [], 0, 0, 0, 0, 0, 0, false)).2.2.2.2.2.2, place (s.2.2.2.2.2.2.2.2.1, 8))].length ≤ 1099511627776) && P_grow_0 [F_ratt ((l.getD (place (s.2.1, (↑l.length : Int))).toNat (0, 0, 0, 0, 0, [], 0, 0, 0, 0, 0, 0, false)).2.2.2.2.2.2, place (s.2.2.2.2.2.2.2.2.1, 8))] (l, op, place (s.2.2.1, 4), place (s.2.2.2.1, 8), ((l.getD (place (s.2.1, (↑l.length : Int))).toNat (0, 0, 0, 0, 0, [], 0, 0, 0, 0, 0, 0, false)).2.2.1, (l.getD (place (s.2.1, (↑l.length : Int))).toNat (0, 0, 0, 0, 0, [], 0, 0, 0, 0, 0, 0, false)).2.2.2.1, (l.getD (place (s.2.1, (↑l.length : Int))).toNat (0, 0, 0, 0, 0, [], 0, 0, 0, 0, 0, 0, false)).2.2.2.2.1, (l.getD (place (s.2.1, (↑l.length : Int))).toNat (0, 0, 0, 0, 0, [], 0, 0, 0, 0, 0, 0, false)).2.2.2.2.2.1, (l.getD (place (s.2.1, (↑l.length : Int))).toNat (0, 0, 0, 0, 0, [], 0, 0, 0, 0, 0, 0, false)).2.2.2.2.2.2), [F_ratt ((l.getD (place (s.2.1, (↑l.length : Int))).toNat (0, 0, 0, 0, 0, [], 0, 0, 0, 0, 0, 0, false)).2.2.2.2.2.2, place (s.2.2.2.2.2.2.2.2.1, 8))], 0))
theorem vnod_chl {src : SNd} {id : SId} {c : SCp} (h : (chlS (src, id, c)).2 = 0) : (chlS (src, id, c)).1 = mkN id (npath src ++ [nid src]) c ∧ vnodB (mkN id (npath src ++ [nid src]) c) = true ∧ vnodB src = true := by
  simp only [chlS] at h ⊢
  cases h1 : (!vnodB src || (!vidB id || (!vcapB c || (decide (id = nid src) || memD id (npath src)))))
  case true => rw [h1] at h; cases h
  cases h2 : decide ((npath src).length = 8)
  case true => rw [h1, h2] at h; cases h
  refine ⟨rfl, ?_⟩
  simp only [Bool.or_eq_false_iff, Bool.not_eq_false', decide_eq_false_iff_not, memD_not] at h1 h2
  obtain ⟨a1, a2, a3, a4, a5⟩ := h1
  refine ⟨?_, a1⟩
  rw [vnodB_iff] at a1 ⊢
  obtain ⟨b1, b2, b3, b4, b5, b6⟩ := a1
  refine ⟨a2, a3, ?_, ?_, ?_, ?_⟩
  · show (npath src ++ [nid src]).length ≤ 8
    simp; omega
  · intro q hq
    rcases List.mem_append.1 hq with hq | hq
    · exact b4 q hq
    · simp at hq; rw [hq]; exact b1
  · show (npath src ++ [nid src]).Nodup
    rw [List.nodup_append]
    exact ⟨b5, by simp, fun a ha b hb => by simp at hb; subst hb; exact fun e => b6 (e ▸ ha)⟩
  · show ¬ id ∈ npath src ++ [nid src]
    simp only [List.mem_append, List.mem_singleton]
    rintro (h | h)
    · exact a5 h
    · exact a4 h
theorem okE_vf {m : Int} {l : List SEn} (h : Vf m l) (hl : l.length ≤ 1000) : okE l = true :=
  okE_mk (by omega) (fun e he => decide_eq_true (by have := h.path he; show (epath e).length ≤ _; omega))
theorem vf_uniq {m : Int} {l : List SEn} (h : Vf m l) {a b : SEn} (ha : a ∈ l) (hb : b ∈ l) (he : eid a = eid b) : a = b := by
  have hs := h.sorted
  clear h
  induction l with
  | nil => cases ha
  | cons u r ih =>
    rw [List.pairwise_cons] at hs
    rcases List.mem_cons.1 ha with ea | ha2
    · rcases List.mem_cons.1 hb with eb | hb2
      · rw [ea, eb]
      · have := hs.1 b hb2; rw [← ea, he, less_irrefl] at this; cases this
    · rcases List.mem_cons.1 hb with eb | hb2
      · have := hs.1 a ha2; rw [← eb, he, less_irrefl] at this; cases this
      · exact ih ha2 hb2 hs.2
theorem addS_cases (l : List SEn) (c s : Int) (n : SNd) : addS (l, c, s, n) = l ∨ (addS (l, c, s, n) = insL (c, s, n) l ∧ (∀ x ∈ l, eid x ≠ nid n) ∧ ∀ x ∈ l, ¬ (x.1 = c ∧ x.2.1 = s)) := by
  cases f1 : decide (findE l (nid n) ≥ 0)
  case true =>
    left
    have : insS (l, c, s, n) = ([], false) := by show (bif decide (findE l (nid n) ≥ 0) || _ then _ else _) = _; rw [f1]; rfl
    simp only [addS, this]; rfl
  cases f2 : decide (atE l c s ≥ 0)
  case true =>
    left
    have : insS (l, c, s, n) = ([], false) := by show (bif decide (findE l (nid n) ≥ 0) || decide (atE l c s ≥ 0) then _ else _) = _; rw [f1, f2]; rfl
    simp only [addS, this]; rfl
  right
  have : insS (l, c, s, n) = (insL (c, s, n) l, true) := by show (bif decide (findE l (nid n) ≥ 0) || decide (atE l c s ≥ 0) then _ else _) = _; rw [f1, f2]; rfl
  exact ⟨by simp only [addS, this]; rfl, findE_not f1, atE_not f2⟩
theorem grow_0 (l : List SEn) (op core slot : Int) (sE : SEn) (caps : List SCp) (h0 : Vf (op - 1) l) (hop : 1 ≤ op) (hs : sE ∈ l) (hlen : l.length ≤ 900) (hcore : 0 ≤ core ∧ core < 4) (hslot : 0 ≤ slot ∧ slot < 8) :
    ∀ (r done : List SCp) (l' : List SEn) (i : Nat), i = done.length → done.length + r.length ≤ 8 → (done ++ r).Pairwise (fun a b => overlaps (rgC a, rgC b) = false) →
      (∀ u ∈ r, vcapB u = true ∧ contains (rgE sE, rgC u) = true ∧ ((ecap sE).1 = 1 ∨ sobB (ecap sE, u) = true) ∧ ∀ x ∈ l, coexB (ecap x, u) = true) →
      Vf op l' → (∀ x ∈ l, x ∈ l') → (∀ x ∈ l', x ∈ l ∨ (ecap x ∈ done ∧ (eid x).2.1 = op ∧ epath x = npath sE.2.2 ++ [nid sE.2.2])) → l'.length ≤ l.length + i →
      P_grow_0 r (l', op, core, slot, sE.2.2, caps, i) = true ∧ Vf op (F_grow_0 r (l', op, core, slot, sE.2.2, caps, i)) ∧ (F_grow_0 r (l', op, core, slot, sE.2.2, caps, i)).length ≤ l.length + 8
  | [], done, l', i, hi, h8, hp, hu, hv, hsub, hof, hl => ⟨rfl, hv, by simp only [F_grow_0]; simp at h8; omega⟩
  | u :: r, done, l', i, hi, h8, hp, hu, hv, hsub, hof, hl => by
    simp only [List.length_cons] at h8
    obtain ⟨u1, u2, u3, u4⟩ := hu u (List.mem_cons_self ..)
    have hw : IntKind.i64.wrap (slot + (i : Int)) = slot + (i : Int) := i64_id (by omega) (by omega)
    simp only [F_grow_0, P_grow_0, hw, bneI]
    by_cases hc : (chlS (sE.2.2, (core, op, (i : Int)), u)).2 = 0
    case neg =>
      simp only [decide_eq_false hc, Bool.not_false, cond_true]
      exact ⟨trivial, hv, by omega⟩
    obtain ⟨c1, c2, c3⟩ := vnod_chl hc
    simp only [decide_eq_true hc, Bool.not_true, cond_false, c1]
    have hok : addPre (l', core, slot + (i : Int), mkN (core, op, (i : Int)) (npath sE.2.2 ++ [nid sE.2.2]) u) = true := by
      simp only [addPre, insPre, Bool.and_eq_true]
      refine ⟨okE_vf hv (by omega), decide_eq_true ?_⟩
      have := vnodB_len c2
      show (npath sE.2.2 ++ [nid sE.2.2]).length ≤ _
      exact Nat.le_trans this (by omega)
    rw [hok, Bool.true_and]
    have hpath : ∀ q ∈ npath sE.2.2 ++ [nid sE.2.2], q.2.1 ≤ op - 1 := by
      intro q hq
      rcases List.mem_append.1 hq with hq | hq
      · exact (h0.ops sE hs).2 q hq
      · simp at hq; rw [hq]; exact (h0.ops sE hs).1
    have next : ∀ l2 : List SEn, Vf op l2 → (∀ x ∈ l, x ∈ l2) → (∀ x ∈ l2, x ∈ l ∨ (ecap x ∈ done ++ [u] ∧ (eid x).2.1 = op ∧ epath x = npath sE.2.2 ++ [nid sE.2.2])) → l2.length ≤ l'.length + 1 →
        P_grow_0 r (l2, op, core, slot, sE.2.2, caps, i + 1) = true ∧ Vf op (F_grow_0 r (l2, op, core, slot, sE.2.2, caps, i + 1)) ∧ (F_grow_0 r (l2, op, core, slot, sE.2.2, caps, i + 1)).length ≤ l.length + 8 := fun l2 v2 s2 o2 n2 =>
      grow_0 l op core slot sE caps h0 hop hs hlen hcore hslot r (done ++ [u]) l2 (i + 1) (by simp [hi]) (by simp; omega) (by simpa using hp) (fun v hv => hu v (List.mem_cons_of_mem _ hv)) v2 s2 o2 (by omega)
    have old : ∀ x ∈ l', x ∈ l ∨ (ecap x ∈ done ++ [u] ∧ (eid x).2.1 = op ∧ epath x = npath sE.2.2 ++ [nid sE.2.2]) := fun x hx => (hof x hx).imp id fun ⟨a, b⟩ => ⟨List.mem_append_left _ a, b⟩
    rcases addS_cases l' core (slot + (i : Int)) (mkN (core, op, (i : Int)) (npath sE.2.2 ++ [nid sE.2.2]) u) with h | ⟨h, hid, hat⟩
    · rw [h]; exact next l' hv hsub old (by omega)
    rw [h]
    obtain ⟨e, he⟩ : ∃ e : SEn, e = (core, slot + (i : Int), mkN (core, op, (i : Int)) (npath sE.2.2 ++ [nid sE.2.2]) u) := ⟨_, rfl⟩
    rw [← he]
    have e1 : eid e = (core, op, (i : Int)) := by rw [he]; rfl
    have e2 : epath e = npath sE.2.2 ++ [nid sE.2.2] := by rw [he]; rfl
    have e3 : ecap e = u := by rw [he]; rfl
    have e4 : e.1 = core := by rw [he]
    have e5 : e.2.1 = slot + (i : Int) := by rw [he]
    have e6 : e.2.2 = mkN (core, op, (i : Int)) (npath sE.2.2 ++ [nid sE.2.2]) u := by rw [he]
    have hid : ∀ x ∈ l', eid x ≠ eid e := by rw [e1]; exact hid
    have hat : ∀ x ∈ l', ¬ (x.1 = e.1 ∧ x.2.1 = e.2.1) := by rw [e4, e5]; exact hat
    refine next (insL e l') ?_ (fun x hx => mem_insL.2 (.inr (hsub x hx))) (fun x hx => ?_) (by rw [len_insL]; omega)
    · refine hv.ins (Int.le_refl _) (by rw [e6]; exact c2) ⟨by rw [e4]; exact hcore, by rw [e5]; omega⟩ hid hat (fun x hx => ?_) (fun p hp2 k hk => ?_) (fun x hx hm => ?_) ⟨by rw [e1]; exact Int.le_refl _, fun q hq => by rw [e2] at hq; have := hpath q hq; omega⟩ (by rw [e1, e4])
      · rw [e3]
        rcases hof x hx with hx | ⟨hx, _⟩
        · exact u4 x hx
        · exact (coexB_iff _ _).2 (.inl ((List.pairwise_append.1 hp).2.2 _ hx u (List.mem_cons_self ..)))
      · rw [e2] at hk ⊢
        have hrg : rgE e = rgC u := by unfold rgE; rw [e3]
        rw [hrg, e3]
        have hpo := hpath _ (List.mem_of_getElem? hk)
        have hpl : p ∈ l := by
          rcases hof p hp2 with h | ⟨_, h, _⟩
          · exact h
          · omega
        by_cases hkl : k < (npath sE.2.2).length
        · rw [List.getElem?_append_left hkl] at hk
          obtain ⟨a1, a2, a3⟩ := h0.anc p hpl sE hs k hk
          refine ⟨by rw [a1, List.take_append_of_le_length (by omega)]; rfl, cont_trans a2 u2, ?_⟩
          rcases a3 with a3 | a3
          · exact .inl a3
          · rcases u3 with u3 | u3
            · exact .inl (by rw [(sob_rg a3).2]; exact u3)
            · exact .inr (sob_trans a3 u3)
        · rw [List.getElem?_append_right (by omega)] at hk
          have hk0 : k - (npath sE.2.2).length = 0 := by
            rcases Nat.eq_zero_or_pos (k - (npath sE.2.2).length) with h | h
            · exact h
            · rw [List.getElem?_eq_none (by simp; omega)] at hk; cases hk
          rw [hk0] at hk
          have hpe : eid p = eid sE := by
            have h9 : some (nid sE.2.2) = some (eid p) := hk
            exact (Option.some.inj h9).symm
          have := vf_uniq h0 hpl hs hpe
          subst this
          refine ⟨?_, u2, u3⟩
          rw [show k = (npath p.2.2).length by omega]
          simp; rfl
      · rw [e1] at hm
        rcases hof x hx with hx | ⟨_, _, hx⟩
        · have := (h0.ops x hx).2 _ hm
          simp only at this; omega
        · rw [hx] at hm
          have := hpath _ hm
          simp only at this; omega
    · rcases mem_insL.1 hx with rfl | hx
      · exact .inr ⟨by rw [e3]; simp, by rw [e1], e2⟩
      · exact old x hx
def gRoot (l : List SEn) (s : SSt) (op : Int) : List SEn := bif cnfS (l, (0, 0, 0), [untS (s.2.2.2.2.2.1, s.2.2.2.2.2.2.1)]) then l
  else addS (l, place (s.2.2.1, 4), place (s.2.2.2.1, 8), mkN (place (s.2.2.1, 4), op, 0) [] (untS (s.2.2.2.2.2.1, s.2.2.2.2.2.2.1)))
def gSrc (l : List SEn) (s : SSt) : SEn := l.getD (place (s.2.1, ((l.length : Nat) : Int))).toNat zEn
def gKind (s : SSt) : Int := IntKind.i64.wrap (1 + place (s.2.2.2.2.1, 6))
def gBits (s : SSt) : Int := [IntKind.i64.wrap (6 + place (s.2.2.2.2.2.2.1, 10)), 12, 12, 6, 10, 16].getD (IntKind.i64.wrap (gKind s - 1)).toNat 0
def gRet (l : List SEn) (s : SSt) : List SCp × Int := retS (ecap (gSrc l s), gKind s, gBits s, place (s.2.2.2.2.2.2.2.2.1, 2), 32, IntKind.i64.wrap (place (s.2.2.2.2.2.1, 8) * 2 ^ min (IntKind.u64.wrap (gBits s)).toNat IntKind.i64.bits), IntKind.i64.wrap (1 + place (s.2.2.2.2.2.2.2.1, 3)))
theorem grow_F0 (l : List SEn) (s : SSt) (op : Int) : F_grow (l, s, op) = bif s.1 then gRoot l s op else bif ((l.length : Nat) : Int) == 0 then gRoot l s op
    else bif !s.2.2.2.2.2.2.2.2.2 then (bif (gRet l s).2 != 0 then l else bif cnfS (l, eid (gSrc l s), (gRet l s).1) then l else F_grow_0 (gRet l s).1 (l, op, place (s.2.2.1, 4), place (s.2.2.2.1, 8), (gSrc l s).2.2, (gRet l s).1, 0))
    else F_grow_0 [F_ratt (ecap (gSrc l s), place (s.2.2.2.2.2.2.2.2.1, 8))] (l, op, place (s.2.2.1, 4), place (s.2.2.2.1, 8), (gSrc l s).2.2, [F_ratt (ecap (gSrc l s), place (s.2.2.2.2.2.2.2.2.1, 8))], 0) := rfl
def pRoot (l : List SEn) (s : SSt) (op : Int) : Bool := cnfPre (l, (0, 0, 0), [untS (s.2.2.2.2.2.1, s.2.2.2.2.2.2.1)]) && bif cnfS (l, (0, 0, 0), [untS (s.2.2.2.2.2.1, s.2.2.2.2.2.2.1)]) then true
  else addPre (l, place (s.2.2.1, 4), place (s.2.2.2.1, 8), mkN (place (s.2.2.1, 4), op, 0) [] (untS (s.2.2.2.2.2.1, s.2.2.2.2.2.2.1)))
theorem grow_P0 (l : List SEn) (s : SSt) (op : Int) : P_grow (l, s, op) = bif s.1 then pRoot l s op else bif ((l.length : Nat) : Int) == 0 then pRoot l s op
    else place_pre (s.2.1, ((l.length : Nat) : Int)) && (decide (0 ≤ place (s.2.1, ((l.length : Nat) : Int))) && decide (place (s.2.1, ((l.length : Nat) : Int)) < ((l.length : Nat) : Int)) &&
      bif !s.2.2.2.2.2.2.2.2.2 then (decide (0 ≤ IntKind.i64.wrap (gKind s - 1)) && decide (IntKind.i64.wrap (gKind s - 1) < (([IntKind.i64.wrap (6 + place (s.2.2.2.2.2.2.1, 10)), 12, 12, 6, 10, 16].length : Nat) : Int)) && (decide (0 ≤ IntKind.u64.wrap (gBits s)) &&
        bif (gRet l s).2 != 0 then true else cnfPre (l, eid (gSrc l s), (gRet l s).1) && bif cnfS (l, eid (gSrc l s), (gRet l s).1) then true else decide ((gRet l s).1.length ≤ 1099511627776) && P_grow_0 (gRet l s).1 (l, op, place (s.2.2.1, 4), place (s.2.2.2.1, 8), (gSrc l s).2.2, (gRet l s).1, 0)))
      else decide ([F_ratt (ecap (gSrc l s), place (s.2.2.2.2.2.2.2.2.1, 8))].length ≤ 1099511627776) && P_grow_0 [F_ratt (ecap (gSrc l s), place (s.2.2.2.2.2.2.2.2.1, 8))] (l, op, place (s.2.2.1, 4), place (s.2.2.2.1, 8), (gSrc l s).2.2, [F_ratt (ecap (gSrc l s), place (s.2.2.2.2.2.2.2.2.1, 8))], 0)) := rfl
theorem any_false {α : Type} {p : α → Bool} {l : List α} (h : l.any p = false) : ∀ x ∈ l, p x = false := fun x hx => by
  cases h2 : p x with
  | false => rfl
  | true => rw [List.any_eq_true.2 ⟨x, hx, h2⟩] at h; cases h
theorem unt_ok (a : Int × Int) : vcapB (untS a) = true := by
  have h := small_valid a
  obtain ⟨h1, h2, _⟩ := valid_elim h
  simp only [vcapB, untS, Bool.and_eq_true, decide_eq_true_eq]
  refine ⟨by rw [sizB_iff]; omega, h, rfl, rfl, rfl, rfl⟩
theorem hit_none {l : List SEn} {s : Int} (hs : s < 0) {c : SCp} {e : SEn} (h : hitE l s c e = false) : coexB (ecap e, c) = true := by
  simp only [hitE, decide_eq_false (show ¬ s ≥ 0 by omega), Bool.false_and, Bool.not_false, Bool.and_true] at h
  exact (coexB_iff _ _).2 (.inl h)
theorem findE_at {l : List SEn} {id : SId} {e : SEn} (he : e ∈ l) (hid : eid e = id) : 0 ≤ findE l id ∧ findE l id < l.length ∧ ∃ x ∈ l, eid x = id ∧ l.getD (findE l id).toNat zEn = x := by
  have h1 : 0 ≤ findE l id := by
    rcases findI_ge (p := fun e : SEn => decide (eid e = id)) (l := l) (k := 0) (by omega) with h | h
    · exact h
    · have := (findI_none (p := fun e : SEn => decide (eid e = id)) (by omega)).2 h e he
      simp [hid] at this
  obtain ⟨j, x, e1, e2, e3, _⟩ := findI_some (p := fun e : SEn => decide (eid e = id)) (l := l) (k := 0) (by omega) h1
  have hj := (List.getElem?_eq_some_iff.1 e2).1
  refine ⟨h1, ?_, x, List.mem_of_getElem? e2, by simpa using e3, ?_⟩
  · show findI _ l 0 < _; rw [e1]; omega
  · have : (findE l id).toNat = j := by show (findI _ l 0).toNat = j; rw [e1]; omega
    rw [this, List.getD_eq_getElem?_getD, e2]; rfl
theorem findE_zero {m : Int} {l : List SEn} (h : Vf m l) : findE l (0, 0, 0) < 0 := by
  rcases findI_ge (p := fun e : SEn => decide (eid e = (0, 0, 0))) (l := l) (k := 0) (by omega) with h1 | h1
  · obtain ⟨j, x, e1, e2, e3, _⟩ := findI_some (p := fun e : SEn => decide (eid e = (0, 0, 0))) (l := l) (k := 0) (by omega) h1
    have hx := List.mem_of_getElem? e2
    have h2 := ((vnodB_iff x.2.2).1 (h.node x hx)).1
    have h3 : eid x = (0, 0, 0) := by simpa using e3
    have h4 : nid x.2.2 = (0, 0, 0) := h3
    rw [h4, vidB_iff] at h2
    simp at h2
  · show findI _ l 0 < 0; rw [h1]; omega
theorem gRoot_ok {l : List SEn} {op : Int} (h : Vf (op - 1) l) (hop : 1 ≤ op) (hop2 : op ≤ 1000) (hl : l.length ≤ 900) (s : SSt) : pRoot l s op = true ∧ Vf op (gRoot l s op) ∧ (gRoot l s op).length ≤ l.length + 8 := by
  have k4 := place_range s.2.2.1 (s := 4) (by omega)
  have k8 := place_range s.2.2.2.1 (s := 8) (by omega)
  have hu := unt_ok (s.2.2.2.2.2.1, s.2.2.2.2.2.2.1)
  simp only [pRoot, gRoot]
  have p1 : cnfPre (l, (0, 0, 0), [untS (s.2.2.2.2.2.1, s.2.2.2.2.2.2.1)]) = true := by
    simp only [cnfPre, Bool.and_eq_true]; exact ⟨decide_eq_true (by omega), decide_eq_true (by simp)⟩
  rw [p1, Bool.true_and]
  cases hc : cnfS (l, (0, 0, 0), [untS (s.2.2.2.2.2.1, s.2.2.2.2.2.2.1)])
  case true => exact ⟨rfl, h.mono (by omega), by simp⟩
  simp only [cond_false]
  generalize untS (s.2.2.2.2.2.1, s.2.2.2.2.2.2.1) = u at hu hc ⊢
  have hn : vnodB (mkN (place (s.2.2.1, 4), op, 0) [] u) = true := by
    rw [vnodB_iff]
    refine ⟨(vidB_iff _).2 (by show 0 ≤ place (s.2.2.1, 4) ∧ place (s.2.2.1, 4) < 32 ∧ 1 ≤ op ∧ op ≤ 1073741824 ∧ (0 : Int) ≤ 0 ∧ (0 : Int) < 8; omega), hu, by show 0 ≤ 8; omega, fun q hq => (by cases hq), List.nodup_nil, fun hq => (by cases hq)⟩
  refine ⟨?_, ?_⟩
  · simp only [addPre, insPre, Bool.and_eq_true]
    exact ⟨okE_vf h (by omega), rfl⟩
  · rcases addS_cases l (place (s.2.2.1, 4)) (place (s.2.2.2.1, 8)) (mkN (place (s.2.2.1, 4), op, 0) [] u) with h1 | ⟨h1, hid, hat⟩
    · rw [h1]; exact ⟨h.mono (by omega), by omega⟩
    · rw [h1]
      refine ⟨h.ins (by omega) hn ⟨k4, ⟨k8.1, show place (s.2.2.2.1, 8) < 64 by omega⟩⟩ hid hat (fun x hx => ?_) (fun p hp k hk => ?_) (fun x hx hm => ?_) ⟨Int.le_refl _, fun q hq => by cases hq⟩ rfl, by rw [len_insL]; omega⟩
      · simp only [cnfS, List.any_cons, List.any_nil, Bool.or_false] at hc
        exact hit_none (findE_zero h) (any_false hc x hx)
      · have : epath ((place (s.2.2.1, 4), place (s.2.2.2.1, 8), mkN (place (s.2.2.1, 4), op, 0) [] u) : SEn) = [] := rfl
        rw [this] at hk; simp at hk
      · have := (h.ops x hx).2 _ hm
        have e : (eid ((place (s.2.2.1, 4), place (s.2.2.2.1, 8), mkN (place (s.2.2.1, 4), op, 0) [] u) : SEn)).2.1 = op := rfl
        rw [e] at this; omega
theorem att_sob (c : SCp) (m : Int) : sobB (c, F_ratt (c, m)) = true := (sobB_iff _ _).2 ⟨rfl, rfl, rfl, rfl, rfl, rfl⟩
theorem and_range (r m : Int) (hr : 0 ≤ r ∧ r ≤ 7) (hm : 0 ≤ m ∧ m ≤ 7) : 0 ≤ IntKind.i64.wrap (((BitVec.ofInt IntKind.i64.bits r &&& BitVec.ofInt IntKind.i64.bits m).toNat : Nat) : Int) ∧ IntKind.i64.wrap (((BitVec.ofInt IntKind.i64.bits r &&& BitVec.ofInt IntKind.i64.bits m).toNat : Nat) : Int) ≤ 7 := by
  have h1 : ∀ a : Fin 8, ∀ b : Fin 8, 0 ≤ IntKind.i64.wrap (((BitVec.ofInt IntKind.i64.bits (a.val : Int) &&& BitVec.ofInt IntKind.i64.bits (b.val : Int)).toNat : Nat) : Int) ∧ IntKind.i64.wrap (((BitVec.ofInt IntKind.i64.bits (a.val : Int) &&& BitVec.ofInt IntKind.i64.bits (b.val : Int)).toNat : Nat) : Int) ≤ 7 := by decide +kernel
  have := h1 ⟨r.toNat, by omega⟩ ⟨m.toNat, by omega⟩
  simpa [Int.toNat_of_nonneg hr.1, Int.toNat_of_nonneg hm.1] using this
theorem att_ok {c : SCp} (h : vcapB c = true) (m : Int) (hm : 0 ≤ m ∧ m ≤ 7) : vcapB (F_ratt (c, m)) = true := by
  simp only [vcapB, Bool.and_eq_true, decide_eq_true_eq] at h ⊢
  have := and_range c.2.2.2.1 m ⟨h.2.2.1, h.2.2.2.1⟩ hm
  exact ⟨h.1, h.2.1, this.1, this.2, h.2.2.2.2⟩
theorem grow_ok {l : List SEn} {op : Int} (h : Vf (op - 1) l) (hop : 1 ≤ op) (hop2 : op ≤ 1000) (hl : l.length ≤ 900) (s : SSt) : P_grow (l, s, op) = true ∧ Vf op (F_grow (l, s, op)) ∧ (F_grow (l, s, op)).length ≤ l.length + 8 := by
  rw [grow_P0, grow_F0]
  cases hroot : s.1
  case true => exact gRoot_ok h hop hop2 hl s
  cases h0 : (((l.length : Nat) : Int) == 0)
  case true => exact gRoot_ok h hop hop2 hl s
  simp only [cond_false]
  have hpos : 0 < ((l.length : Nat) : Int) := by
    have : ¬ ((l.length : Nat) : Int) = 0 := by simpa using h0
    omega
  have kp := place_range s.2.1 hpos
  have k4 := place_range s.2.2.1 (s := 4) (by omega)
  have k8 := place_range s.2.2.2.1 (s := 8) (by omega)
  have k6 := place_range s.2.2.2.2.1 (s := 6) (by omega)
  have k7 := place_range s.2.2.2.2.2.2.2.2.1 (s := 8) (by omega)
  have hpp : place_pre (s.2.1, ((l.length : Nat) : Int)) = true := decide_eq_true (by show ((l.length : Nat) : Int) ≤ _; omega)
  have hsm : gSrc l s ∈ l := by
    have : (place (s.2.1, ((l.length : Nat) : Int))).toNat < l.length := by omega
    simp only [gSrc]
    rw [List.getD_eq_getElem?_getD, List.getElem?_eq_getElem this]
    exact List.getElem_mem this
  rw [hpp, decide_eq_true kp.1, decide_eq_true kp.2]
  simp only [Bool.true_and]
  have hsv := h.node _ hsm
  have hsc := ((vnodB_iff _).1 hsv).2.1
  cases hcp : s.2.2.2.2.2.2.2.2.2
  case true =>
    simp only [Bool.not_true, cond_false]
    have := grow_0 l op (place (s.2.2.1, 4)) (place (s.2.2.2.1, 8)) (gSrc l s) [F_ratt (ecap (gSrc l s), place (s.2.2.2.2.2.2.2.2.1, 8))] h hop hsm hl k4 k8 [F_ratt (ecap (gSrc l s), place (s.2.2.2.2.2.2.2.2.1, 8))] [] l 0 rfl (by simp) (by simp)
      (fun u hu => by
        simp at hu; subst hu
        have hs := att_sob (ecap (gSrc l s)) (place (s.2.2.2.2.2.2.2.2.1, 8))
        refine ⟨att_ok hsc _ (by omega), ?_, .inr hs, fun x hx => coex_sob (h.coex x hx _ hsm) hs⟩
        show contains (rgC (ecap (gSrc l s)), _) = true
        rw [← (sob_rg hs).1]
        exact cont_refl (vcapB_valid hsc))
      (h.mono (by omega)) (fun x hx => hx) (fun x hx => .inl hx) (by omega)
    exact ⟨by rw [this.1]; rfl, this.2⟩
  simp only [Bool.not_false, cond_true]
  have hk : gKind s = 1 + place (s.2.2.2.2.1, 6) := i64_id (by omega) (by omega)
  have hk1 : IntKind.i64.wrap (gKind s - 1) = place (s.2.2.2.2.1, 6) := by rw [hk, i64_id (by omega) (by omega)]; omega
  rw [hk1, decide_eq_true k6.1, decide_eq_true (show place (s.2.2.2.2.1, 6) < (([IntKind.i64.wrap (6 + place (s.2.2.2.2.2.2.1, 10)), 12, 12, 6, 10, 16].length : Nat) : Int) from k6.2), decide_eq_true (u64_nn (gBits s))]
  simp only [Bool.true_and, bneI]
  by_cases hr : (gRet l s).2 = 0
  case neg => simp only [decide_eq_false hr, Bool.not_false, cond_true]; exact ⟨trivial, h.mono (by omega), by omega⟩
  simp only [decide_eq_true hr, Bool.not_true, cond_false]
  have ro : RetOk (ecap (gSrc l s)) (gRet l s).1 := retS_ok hr
  have p1 : cnfPre (l, eid (gSrc l s), (gRet l s).1) = true := by
    simp only [cnfPre, Bool.and_eq_true]; exact ⟨decide_eq_true (by omega), decide_eq_true (by have := ro.len; omega)⟩
  rw [p1, Bool.true_and]
  cases hc : cnfS (l, eid (gSrc l s), (gRet l s).1)
  case true => exact ⟨rfl, h.mono (by omega), by simp⟩
  simp only [cond_false]
  obtain ⟨f1, f2, x0, f3, f4, f5⟩ := findE_at hsm rfl
  have hx0 : x0 = gSrc l s := vf_uniq h f3 hsm f4
  rw [hx0] at f5
  have := grow_0 l op (place (s.2.2.1, 4)) (place (s.2.2.2.1, 8)) (gSrc l s) (gRet l s).1 h hop hsm hl k4 k8 (gRet l s).1 [] l 0 rfl (by simpa using ro.len) (by simpa using ro.apart)
    (fun u hu => by
      obtain ⟨c1, c2⟩ := ro.caps u hu
      refine ⟨c1, c2, .inl ro.src1, fun x hx => ?_⟩
      have hh := any_false (any_false hc u hu) x hx
      simp only [hitE, f5, decide_eq_true (show findE l (eid (gSrc l s)) ≥ 0 from f1), Bool.true_and, Bool.and_eq_false_imp, Bool.not_eq_false', Bool.and_eq_true, decide_eq_true_eq] at hh
      cases ho : overlaps (rgE x, rgC u)
      · exact (coexB_iff _ _).2 (.inl ho)
      · obtain ⟨g1, g2⟩ := hh ho
        exact (coexB_iff _ _).2 (.inr (.inr (.inl ⟨g1, cont_trans g2 c2⟩))))
    (h.mono (by omega)) (fun x hx => hx) (fun x hx => .inl hx) (by omega)
  exact ⟨by rw [this.1, decide_eq_true (show (gRet l s).1.length ≤ 1099511627776 by have := ro.len; omega)]; rfl, this.2⟩
noncomputable def F_fors_0 : List (SSt) → ((List (SSt)) × (List (SEn)) × Nat) → (List (SEn))
  | [], (l, out, i) => out
  | uu :: rest, (l, out, i) => bif decide ((↑i : Int) < 40) then bif decide ((↑out.length : Int) < 24) then F_fors_0 rest (l, F_grow (out, uu, (↑(i + 1) : Int)), i + 1) else out else out
noncomputable def P_fors_0 : List (SSt) → ((List (SSt)) × (List (SEn)) × Nat) → Bool
  | [], (l, out, i) => true
  | uu :: rest, (l, out, i) => bif decide ((↑i : Int) < 40) then bif decide ((↑out.length : Int) < 24) then P_grow (out, uu, (↑(i + 1) : Int)) && P_fors_0 rest (l, F_grow (out, uu, (↑(i + 1) : Int)), i + 1) else true else true
noncomputable def F_fors : (List (SSt)) → (List (SEn))
  | l => F_fors_0 l (l, [], 0)
theorem fors_0 (l : List SSt) : ∀ (r : List SSt) (out : List SEn) (i : Nat), Vf (i : Int) out → i ≤ 40 → out.length ≤ 31 → P_fors_0 r (l, out, i) = true ∧ Vf 40 (F_fors_0 r (l, out, i)) ∧ (F_fors_0 r (l, out, i)).length ≤ 31
  | [], out, i, h, hi, hl => ⟨rfl, h.mono (by omega), hl⟩
  | u :: r, out, i, h, hi, hl => by
    simp only [F_fors_0, P_fors_0]
    by_cases h1 : (i : Int) < 40
    case neg => simp only [decide_eq_false h1, cond_false]; exact ⟨trivial, h.mono (by omega), hl⟩
    by_cases h2 : ((out.length : Nat) : Int) < 24
    case neg => simp only [decide_eq_true h1, decide_eq_false h2, cond_true, cond_false]; exact ⟨trivial, h.mono (by omega), hl⟩
    simp only [decide_eq_true h1, decide_eq_true h2, cond_true]
    obtain ⟨g1, g2, g3⟩ := grow_ok (l := out) (op := ((i + 1 : Nat) : Int)) (by rw [show ((i + 1 : Nat) : Int) - 1 = (i : Int) by omega]; exact h) (by omega) (by omega) (by omega) u
    obtain ⟨f1, f2, f3⟩ := fors_0 l r (F_grow (out, u, ((i + 1 : Nat) : Int))) (i + 1) g2 (by omega) (by omega)
    exact ⟨by rw [g1, f1]; rfl, f2, f3⟩
noncomputable def forest (a : List SSt) : List SEn := F_fors a
theorem forest_vf (a : List SSt) : Vf 40 (forest a) ∧ (forest a).length ≤ 31 := (fors_0 a a [] 0 (Vf.nil _) (by omega) (by simp)).2
end Go.AL
