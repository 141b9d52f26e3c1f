/-
  How forests are made: contracts, and that they are valid. By an AI agent.
-/
import Derived.Test.YtjlcdgjcbienbaaF1
namespace Go.AL
open Go.Proofs
set_option linter.unusedVariables false
set_option linter.unusedSimpArgs false
abbrev tSSt : List Ty := [.bool, .int .i64, .int .i64, .int .i64, .int .i64, .int .i64, .int .i64, .int .i64, .int .i64, .bool]
abbrev SSt := Bool × Int × Int × Int × Int × Int × Int × Int × Int × Bool
noncomputable def C_grow : Cfg := ⟨Try.prog, [E_place, E_unt, E_rcnf, E_add, E_ratt, E_rret, E_rchl], pmT [(9, ([(0, []), (1, []), (2, []), (3, []), (4, []), (5, []), (6, []), (7, [])], [(11, 11), (61, 67)])), (13, ([(0, []), (1, []), (2, []), (3, []), (4, []), (5, []), (7, []), (8, []), (10, []), (11, []), (13, []), (14, []), (6, []), (9, []), (12, []), (15, []), (16, []), (17, []), (18, []), (19, []), (20, []), (21, []), (22, [])], [(14, 15), (84, 104)])), (20, ([(0, []), (1, []), (2, []), (3, []), (4, []), (5, []), (6, []), (7, []), (8, []), (13, []), (9, []), (10, []), (11, []), (12, []), (14, []), (15, [])], [(17, 18), (122, 134)]))], 146, [], []⟩
theorem es_grow : EsOk Try.prog [E_place, E_unt, E_rcnf, E_add, E_ratt, E_rret, E_rchl] [] := es_cons E_place_ok (es_cons E_unt_ok (es_cons E_rcnf_ok (es_cons E_add_ok (es_cons E_ratt_ok (es_cons E_rret_ok (es_cons E_rchl_ok (es_nil)))))))
def Lt_grow : Nat → LD := ldT [(0, ⟨[.c 0 (.sl tSEn), .c 2 (.int .i64), .c 7 (.int .i64), .c 8 (.int .i64), .box 10 10 31 11 tSNd, .list 11 999 29 7 tSCp, .c 16 (.int .i64)], [], 0⟩)]
noncomputable def M_grow (f : Nat) (a : (List (SEn)) × SSt × Int) : Option ((List (SEn))) := (runX (C_grow) Lt_grow (Kret Try.prog [.tmp 6] [.v (.sl tSEn)]) f [.code (bodyOf Try.f71)] (initX [.c (.sl tSEn), .g tSSt, .c (.int .i64)] a) : Option (ResT [.v (.sl tSEn)]))
noncomputable def L_grow_0 (f : Nat) (x : (List (SEn)) × Int × Int × Int × SNd × (List (SCp)) × Int) : Option ((List (SEn))) := (runX (C_grow) Lt_grow (Kret Try.prog [.tmp 6] [.v (.sl tSEn)]) f (headOf Try.f71 0) ((Lt_grow 0).mk' x) : Option (ResT [.v (.sl tSEn)]))
theorem M_grow_eq (f : Nat) (l : List (SEn)) (s : SSt) (op : Int) : M_grow (f + 1) (l, s, op) =
    bif s.1 then bif cnfPre (l, (0, 0, 0), [untS (s.2.2.2.2.2.1, s.2.2.2.2.2.2.1)]) then bif cnfS (l, (0, 0, 0), [untS (s.2.2.2.2.2.1, s.2.2.2.2.2.2.1)]) then some l else bif addPre (l, place (s.2.2.1, 4), place (s.2.2.2.1, 8), place (s.2.2.1, 4), op, 0, [], untS (s.2.2.2.2.2.1, s.2.2.2.2.2.2.1)) then some (addS (l, place (s.2.2.1, 4), place (s.2.2.2.1, 8), place (s.2.2.1, 4), op, 0, [], untS (s.2.2.2.2.2.1, s.2.2.2.2.2.2.1))) else none else none else bif (↑l.length : Int) == 0 then bif cnfPre (l, (0, 0, 0), [untS (s.2.2.2.2.2.1, s.2.2.2.2.2.2.1)]) then bif cnfS (l, (0, 0, 0), [untS (s.2.2.2.2.2.1, s.2.2.2.2.2.2.1)]) then some l else bif addPre (l, place (s.2.2.1, 4), place (s.2.2.2.1, 8), place (s.2.2.1, 4), op, 0, [], untS (s.2.2.2.2.2.1, s.2.2.2.2.2.2.1)) then some (addS (l, place (s.2.2.1, 4), place (s.2.2.2.1, 8), place (s.2.2.1, 4), op, 0, [], untS (s.2.2.2.2.2.1, s.2.2.2.2.2.2.1))) else none else none else bif place_pre (s.2.1, (↑l.length : Int)) then bif decide (0 ≤ place (s.2.1, (↑l.length : Int))) && decide (place (s.2.1, (↑l.length : Int)) < (↑l.length : Int)) then bif !s.2.2.2.2.2.2.2.2.2 then bif decide (0 ≤ IntKind.i64.wrap (IntKind.i64.wrap (1 + place (s.2.2.2.2.1, 6)) - 1)) && decide (IntKind.i64.wrap (IntKind.i64.wrap (1 + place (s.2.2.2.2.1, 6)) - 1) < (↑[IntKind.i64.wrap (6 + place (s.2.2.2.2.2.2.1, 10)), 12, 12, 6, 10, 16].length : Int)) then bif decide (0 ≤ IntKind.u64.wrap ([IntKind.i64.wrap (6 + place (s.2.2.2.2.2.2.1, 10)), 12, 12, 6, 10, 16].getD (IntKind.i64.wrap (IntKind.i64.wrap (1 + place (s.2.2.2.2.1, 6)) - 1)).toNat 0)) then bif (retS ((l.getD (place (s.2.1, (↑l.length : Int))).toNat (0, 0, 0, 0, 0, [], 0, 0, 0, 0, 0, 0, false)).2.2.2.2.2.2, IntKind.i64.wrap (1 + place (s.2.2.2.2.1, 6)), [IntKind.i64.wrap (6 + place (s.2.2.2.2.2.2.1, 10)), 12, 12, 6, 10, 16].getD (IntKind.i64.wrap (IntKind.i64.wrap (1 + place (s.2.2.2.2.1, 6)) - 1)).toNat 0, place (s.2.2.2.2.2.2.2.2.1, 2), 32, IntKind.i64.wrap (place (s.2.2.2.2.2.1, 8) * 2 ^ min (IntKind.u64.wrap ([IntKind.i64.wrap (6 + place (s.2.2.2.2.2.2.1, 10)), 12, 12, 6, 10, 16].getD (IntKind.i64.wrap (IntKind.i64.wrap (1 + place (s.2.2.2.2.1, 6)) - 1)).toNat 0)).toNat IntKind.i64.bits), IntKind.i64.wrap (1 + place (s.2.2.2.2.2.2.2.1, 3)))).2 != 0 then some l else bif cnfPre (l, ((l.getD (place (s.2.1, (↑l.length : Int))).toNat (0, 0, 0, 0, 0, [], 0, 0, 0, 0, 0, 0, false)).2.2.1, (l.getD (place (s.2.1, (↑l.length : Int))).toNat (0, 0, 0, 0, 0, [], 0, 0, 0, 0, 0, 0, false)).2.2.2.1, (l.getD (place (s.2.1, (↑l.length : Int))).toNat (0, 0, 0, 0, 0, [], 0, 0, 0, 0, 0, 0, false)).2.2.2.2.1), (retS ((l.getD (place (s.2.1, (↑l.length : Int))).toNat (0, 0, 0, 0, 0, [], 0, 0, 0, 0, 0, 0, false)).2.2.2.2.2.2, IntKind.i64.wrap (1 + place (s.2.2.2.2.1, 6)), [IntKind.i64.wrap (6 + place (s.2.2.2.2.2.2.1, 10)), 12, 12, 6, 10, 16].getD (IntKind.i64.wrap (IntKind.i64.wrap (1 + place (s.2.2.2.2.1, 6)) - 1)).toNat 0, place (s.2.2.2.2.2.2.2.2.1, 2), 32, IntKind.i64.wrap (place (s.2.2.2.2.2.1, 8) * 2 ^ min (IntKind.u64.wrap ([IntKind.i64.wrap (6 + place (s.2.2.2.2.2.2.1, 10)), 12, 12, 6, 10, 16].getD (IntKind.i64.wrap (IntKind.i64.wrap (1 + place (s.2.2.2.2.1, 6)) - 1)).toNat 0)).toNat IntKind.i64.bits), IntKind.i64.wrap (1 + place (s.2.2.2.2.2.2.2.1, 3)))).1) then bif cnfS (l, ((l.getD (place (s.2.1, (↑l.length : Int))).toNat (0, 0, 0, 0, 0, [], 0, 0, 0, 0, 0, 0, false)).2.2.1, (l.getD (place (s.2.1, (↑l.length : Int))).toNat (0, 0, 0, 0, 0, [], 0, 0, 0, 0, 0, 0, false)).2.2.2.1, (l.getD (place (s.2.1, (↑l.length : Int))).toNat (0, 0, 0, 0, 0, [], 0, 0, 0, 0, 0, 0, false)).2.2.2.2.1), (retS ((l.getD (place (s.2.1, (↑l.length : Int))).toNat (0, 0, 0, 0, 0, [], 0, 0, 0, 0, 0, 0, false)).2.2.2.2.2.2, IntKind.i64.wrap (1 + place (s.2.2.2.2.1, 6)), [IntKind.i64.wrap (6 + place (s.2.2.2.2.2.2.1, 10)), 12, 12, 6, 10, 16].getD (IntKind.i64.wrap (IntKind.i64.wrap (1 + place (s.2.2.2.2.1, 6)) - 1)).toNat 0, place (s.2.2.2.2.2.2.2.2.1, 2), 32, IntKind.i64.wrap (place (s.2.2.2.2.2.1, 8) * 2 ^ min (IntKind.u64.wrap ([IntKind.i64.wrap (6 + place (s.2.2.2.2.2.2.1, 10)), 12, 12, 6, 10, 16].getD (IntKind.i64.wrap (IntKind.i64.wrap (1 + place (s.2.2.2.2.1, 6)) - 1)).toNat 0)).toNat IntKind.i64.bits), IntKind.i64.wrap (1 + place (s.2.2.2.2.2.2.2.1, 3)))).1) then some l else L_grow_0 f (l, op, place (s.2.2.1, 4), place (s.2.2.2.1, 8), ((l.getD (place (s.2.1, (↑l.length : Int))).toNat (0, 0, 0, 0, 0, [], 0, 0, 0, 0, 0, 0, false)).2.2.1, (l.getD (place (s.2.1, (↑l.length : Int))).toNat (0, 0, 0, 0, 0, [], 0, 0, 0, 0, 0, 0, false)).2.2.2.1, (l.getD (place (s.2.1, (↑l.length : Int))).toNat (0, 0, 0, 0, 0, [], 0, 0, 0, 0, 0, 0, false)).2.2.2.2.1, (l.getD (place (s.2.1, (↑l.length : Int))).toNat (0, 0, 0, 0, 0, [], 0, 0, 0, 0, 0, 0, false)).2.2.2.2.2.1, (l.getD (place (s.2.1, (↑l.length : Int))).toNat (0, 0, 0, 0, 0, [], 0, 0, 0, 0, 0, 0, false)).2.2.2.2.2.2), (retS ((l.getD (place (s.2.1, (↑l.length : Int))).toNat (0, 0, 0, 0, 0, [], 0, 0, 0, 0, 0, 0, false)).2.2.2.2.2.2, IntKind.i64.wrap (1 + place (s.2.2.2.2.1, 6)), [IntKind.i64.wrap (6 + place (s.2.2.2.2.2.2.1, 10)), 12, 12, 6, 10, 16].getD (IntKind.i64.wrap (IntKind.i64.wrap (1 + place (s.2.2.2.2.1, 6)) - 1)).toNat 0, place (s.2.2.2.2.2.2.2.2.1, 2), 32, IntKind.i64.wrap (place (s.2.2.2.2.2.1, 8) * 2 ^ min (IntKind.u64.wrap ([IntKind.i64.wrap (6 + place (s.2.2.2.2.2.2.1, 10)), 12, 12, 6, 10, 16].getD (IntKind.i64.wrap (IntKind.i64.wrap (1 + place (s.2.2.2.2.1, 6)) - 1)).toNat 0)).toNat IntKind.i64.bits), IntKind.i64.wrap (1 + place (s.2.2.2.2.2.2.2.1, 3)))).1, 0) else none else none else none else L_grow_0 f (l, op, place (s.2.2.1, 4), place (s.2.2.2.1, 8), ((l.getD (place (s.2.1, (↑l.length : Int))).toNat (0, 0, 0, 0, 0, [], 0, 0, 0, 0, 0, 0, false)).2.2.1, (l.getD (place (s.2.1, (↑l.length : Int))).toNat (0, 0, 0, 0, 0, [], 0, 0, 0, 0, 0, 0, false)).2.2.2.1, (l.getD (place (s.2.1, (↑l.length : Int))).toNat (0, 0, 0, 0, 0, [], 0, 0, 0, 0, 0, 0, false)).2.2.2.2.1, (l.getD (place (s.2.1, (↑l.length : Int))).toNat (0, 0, 0, 0, 0, [], 0, 0, 0, 0, 0, 0, false)).2.2.2.2.2.1, (l.getD (place (s.2.1, (↑l.length : Int))).toNat (0, 0, 0, 0, 0, [], 0, 0, 0, 0, 0, 0, false)).2.2.2.2.2.2), [F_ratt ((l.getD (place (s.2.1, (↑l.length : Int))).toNat (0, 0, 0, 0, 0, [], 0, 0, 0, 0, 0, 0, false)).2.2.2.2.2.2, place (s.2.2.2.2.2.2.2.2.1, 8))], 0) else none else none := by kernel_rfl
theorem L_grow_0_eq (f : Nat) (l : List (SEn)) (op : Int) (core : Int) (slot : Int) (src : SNd) (caps : List (SCp)) (i : Int) : L_grow_0 (f + 1) (l, op, core, slot, src, caps, i) =
    bif decide (i < (↑caps.length : Int)) then bif decide (0 ≤ i) && decide (i < (↑caps.length : Int)) then bif (chlS (src, (core, op, i), caps.getD i.toNat (0, 0, 0, 0, 0, 0, false))).2 != 0 then some l else bif addPre (l, core, IntKind.i64.wrap (slot + i), (chlS (src, (core, op, i), caps.getD i.toNat (0, 0, 0, 0, 0, 0, false))).1) then L_grow_0 f (addS (l, core, IntKind.i64.wrap (slot + i), (chlS (src, (core, op, i), caps.getD i.toNat (0, 0, 0, 0, 0, 0, false))).1), op, core, slot, src, caps, IntKind.i64.wrap (i + 1)) else none else none else some l := by kernel_rfl
noncomputable def F_grow_0 : List (SCp) → ((List (SEn)) × Int × Int × Int × SNd × (List (SCp)) × Nat) → (List (SEn))
  | [], (l, op, core, slot, src, caps, i) => l
  | uu :: rest, (l, op, core, slot, src, caps, i) => bif (chlS (src, (core, op, (↑i : Int)), uu)).2 != 0 then l else F_grow_0 rest (addS (l, core, IntKind.i64.wrap (slot + (↑i : Int)), (chlS (src, (core, op, (↑i : Int)), uu)).1), op, core, slot, src, caps, i + 1)
noncomputable def P_grow_0 : List (SCp) → ((List (SEn)) × Int × Int × Int × SNd × (List (SCp)) × Nat) → Bool
  | [], (l, op, core, slot, src, caps, i) => true
  | uu :: rest, (l, op, core, slot, src, caps, i) => bif (chlS (src, (core, op, (↑i : Int)), uu)).2 != 0 then true else addPre (l, core, IntKind.i64.wrap (slot + (↑i : Int)), (chlS (src, (core, op, (↑i : Int)), uu)).1) && P_grow_0 rest (addS (l, core, IntKind.i64.wrap (slot + (↑i : Int)), (chlS (src, (core, op, (↑i : Int)), uu)).1), op, core, slot, src, caps, i + 1)
theorem A_grow_0 : ∀ (rest : List (SCp)) (l : List (SEn)) (op : Int) (core : Int) (slot : Int) (src : SNd) (caps : List (SCp)) (i : Nat) (hd : caps.drop i = rest) (hl : caps.length ≤ 1099511627776), Rns (fun f => L_grow_0 f (l, op, core, slot, src, caps, ((i : Nat) : Int))) (P_grow_0 rest (l, op, core, slot, src, caps, i)) (F_grow_0 rest (l, op, core, slot, src, caps, i))
  | [], l, op, core, slot, src, caps, i, hd, hl => ev_step (T := fun f => some l) (fun f => (L_grow_0_eq f _ _ _ _ _ _ _).trans (by simp only [ge_dec (drop_ge hd), ge0, Bool.and_self, Bool.true_and, cond_true, cond_false, List.length_set] <;> rfl)) ev_some
  | uu :: rest, l, op, core, slot, src, caps, i, hd, hl => ev_step (T := fun f => bif (chlS (src, (core, op, (↑i : Int)), uu)).2 != 0 then some l else bif addPre (l, core, IntKind.i64.wrap (slot + (↑i : Int)), (chlS (src, (core, op, (↑i : Int)), uu)).1) then L_grow_0 f (addS (l, core, IntKind.i64.wrap (slot + (↑i : Int)), (chlS (src, (core, op, (↑i : Int)), uu)).1), op, core, slot, src, caps, (↑(i + 1) : Int)) else none) (fun f => (L_grow_0_eq f _ _ _ _ _ _ _).trans (by simp only [lt_dec (drop_lt hd), drop_get hd, wrap_succ (drop_lt hd) hl, getD_set (drop_lt hd), ge0, Bool.and_self, Bool.true_and, cond_true, cond_false, List.length_set] <;> rfl)) (ev_bif ev_some (ev_chk (A_grow_0 rest _ _ _ _ _ _ _ (by first | exact drop_succ hd | exact drop_set hd | exact drop_setS (drop_set hd)) (by first | exact hl | simpa using hl))))
noncomputable def F_grow : ((List (SEn)) × SSt × Int) → (List (SEn))
  | (l, s, op) => bif s.1 then bif cnfS (l, (0, 0, 0), [untS (s.2.2.2.2.2.1, s.2.2.2.2.2.2.1)]) then l else addS (l, place (s.2.2.1, 4), place (s.2.2.2.1, 8), place (s.2.2.1, 4), op, 0, [], untS (s.2.2.2.2.2.1, s.2.2.2.2.2.2.1)) else bif (↑l.length : Int) == 0 then bif cnfS (l, (0, 0, 0), [untS (s.2.2.2.2.2.1, s.2.2.2.2.2.2.1)]) then l else addS (l, place (s.2.2.1, 4), place (s.2.2.2.1, 8), place (s.2.2.1, 4), op, 0, [], untS (s.2.2.2.2.2.1, s.2.2.2.2.2.2.1)) else bif !s.2.2.2.2.2.2.2.2.2 then bif (retS ((l.getD (place (s.2.1, (↑l.length : Int))).toNat (0, 0, 0, 0, 0, [], 0, 0, 0, 0, 0, 0, false)).2.2.2.2.2.2, IntKind.i64.wrap (1 + place (s.2.2.2.2.1, 6)), [IntKind.i64.wrap (6 + place (s.2.2.2.2.2.2.1, 10)), 12, 12, 6, 10, 16].getD (IntKind.i64.wrap (IntKind.i64.wrap (1 + place (s.2.2.2.2.1, 6)) - 1)).toNat 0, place (s.2.2.2.2.2.2.2.2.1, 2), 32, IntKind.i64.wrap (place (s.2.2.2.2.2.1, 8) * 2 ^ min (IntKind.u64.wrap ([IntKind.i64.wrap (6 + place (s.2.2.2.2.2.2.1, 10)), 12, 12, 6, 10, 16].getD (IntKind.i64.wrap (IntKind.i64.wrap (1 + place (s.2.2.2.2.1, 6)) - 1)).toNat 0)).toNat IntKind.i64.bits), IntKind.i64.wrap (1 + place (s.2.2.2.2.2.2.2.1, 3)))).2 != 0 then l else bif cnfS (l, ((l.getD (place (s.2.1, (↑l.length : Int))).toNat (0, 0, 0, 0, 0, [], 0, 0, 0, 0, 0, 0, false)).2.2.1, (l.getD (place (s.2.1, (↑l.length : Int))).toNat (0, 0, 0, 0, 0, [], 0, 0, 0, 0, 0, 0, false)).2.2.2.1, (l.getD (place (s.2.1, (↑l.length : Int))).toNat (0, 0, 0, 0, 0, [], 0, 0, 0, 0, 0, 0, false)).2.2.2.2.1), (retS ((l.getD (place (s.2.1, (↑l.length : Int))).toNat (0, 0, 0, 0, 0, [], 0, 0, 0, 0, 0, 0, false)).2.2.2.2.2.2, IntKind.i64.wrap (1 + place (s.2.2.2.2.1, 6)), [IntKind.i64.wrap (6 + place (s.2.2.2.2.2.2.1, 10)), 12, 12, 6, 10, 16].getD (IntKind.i64.wrap (IntKind.i64.wrap (1 + place (s.2.2.2.2.1, 6)) - 1)).toNat 0, place (s.2.2.2.2.2.2.2.2.1, 2), 32, IntKind.i64.wrap (place (s.2.2.2.2.2.1, 8) * 2 ^ min (IntKind.u64.wrap ([IntKind.i64.wrap (6 + place (s.2.2.2.2.2.2.1, 10)), 12, 12, 6, 10, 16].getD (IntKind.i64.wrap (IntKind.i64.wrap (1 + place (s.2.2.2.2.1, 6)) - 1)).toNat 0)).toNat IntKind.i64.bits), IntKind.i64.wrap (1 + place (s.2.2.2.2.2.2.2.1, 3)))).1) then l else F_grow_0 (retS ((l.getD (place (s.2.1, (↑l.length : Int))).toNat (0, 0, 0, 0, 0, [], 0, 0, 0, 0, 0, 0, false)).2.2.2.2.2.2, IntKind.i64.wrap (1 + place (s.2.2.2.2.1, 6)), [IntKind.i64.wrap (6 + place (s.2.2.2.2.2.2.1, 10)), 12, 12, 6, 10, 16].getD (IntKind.i64.wrap (IntKind.i64.wrap (1 + place (s.2.2.2.2.1, 6)) - 1)).toNat 0, place (s.2.2.2.2.2.2.2.2.1, 2), 32, IntKind.i64.wrap (place (s.2.2.2.2.2.1, 8) * 2 ^ min (IntKind.u64.wrap ([IntKind.i64.wrap (6 + place (s.2.2.2.2.2.2.1, 10)), 12, 12, 6, 10, 16].getD (IntKind.i64.wrap (IntKind.i64.wrap (1 + place (s.2.2.2.2.1, 6)) - 1)).toNat 0)).toNat IntKind.i64.bits), IntKind.i64.wrap (1 + place (s.2.2.2.2.2.2.2.1, 3)))).1 (l, op, place (s.2.2.1, 4), place (s.2.2.2.1, 8), ((l.getD (place (s.2.1, (↑l.length : Int))).toNat (0, 0, 0, 0, 0, [], 0, 0, 0, 0, 0, 0, false)).2.2.1, (l.getD (place (s.2.1, (↑l.length : Int))).toNat (0, 0, 0, 0, 0, [], 0, 0, 0, 0, 0, 0, false)).2.2.2.1, (l.getD (place (s.2.1, (↑l.length : Int))).toNat (0, 0, 0, 0, 0, [], 0, 0, 0, 0, 0, 0, false)).2.2.2.2.1, (l.getD (place (s.2.1, (↑l.length : Int))).toNat (0, 0, 0, 0, 0, [], 0, 0, 0, 0, 0, 0, false)).2.2.2.2.2.1, (l.getD (place (s.2.1, (↑l.length : Int))).toNat (0, 0, 0, 0, 0, [], 0, 0, 0, 0, 0, 0, false)).2.2.2.2.2.2), (retS ((l.getD (place (s.2.1, (↑l.length : Int))).toNat (0, 0, 0, 0, 0, [], 0, 0, 0, 0, 0, 0, false)).2.2.2.2.2.2, IntKind.i64.wrap (1 + place (s.2.2.2.2.1, 6)), [IntKind.i64.wrap (6 + place (s.2.2.2.2.2.2.1, 10)), 12, 12, 6, 10, 16].getD (IntKind.i64.wrap (IntKind.i64.wrap (1 + place (s.2.2.2.2.1, 6)) - 1)).toNat 0, place (s.2.2.2.2.2.2.2.2.1, 2), 32, IntKind.i64.wrap (place (s.2.2.2.2.2.1, 8) * 2 ^ min (IntKind.u64.wrap ([IntKind.i64.wrap (6 + place (s.2.2.2.2.2.2.1, 10)), 12, 12, 6, 10, 16].getD (IntKind.i64.wrap (IntKind.i64.wrap (1 + place (s.2.2.2.2.1, 6)) - 1)).toNat 0)).toNat IntKind.i64.bits), IntKind.i64.wrap (1 + place (s.2.2.2.2.2.2.2.1, 3)))).1, 0) else F_grow_0 [F_ratt ((l.getD (place (s.2.1, (↑l.length : Int))).toNat (0, 0, 0, 0, 0, [], 0, 0, 0, 0, 0, 0, false)).2.2.2.2.2.2, place (s.2.2.2.2.2.2.2.2.1, 8))] (l, op, place (s.2.2.1, 4), place (s.2.2.2.1, 8), ((l.getD (place (s.2.1, (↑l.length : Int))).toNat (0, 0, 0, 0, 0, [], 0, 0, 0, 0, 0, 0, false)).2.2.1, (l.getD (place (s.2.1, (↑l.length : Int))).toNat (0, 0, 0, 0, 0, [], 0, 0, 0, 0, 0, 0, false)).2.2.2.1, (l.getD (place (s.2.1, (↑l.length : Int))).toNat (0, 0, 0, 0, 0, [], 0, 0, 0, 0, 0, 0, false)).2.2.2.2.1, (l.getD (place (s.2.1, (↑l.length : Int))).toNat (0, 0, 0, 0, 0, [], 0, 0, 0, 0, 0, 0, false)).2.2.2.2.2.1, (l.getD (place (s.2.1, (↑l.length : Int))).toNat (0, 0, 0, 0, 0, [], 0, 0, 0, 0, 0, 0, false)).2.2.2.2.2.2), [F_ratt ((l.getD (place (s.2.1, (↑l.length : Int))).toNat (0, 0, 0, 0, 0, [], 0, 0, 0, 0, 0, 0, false)).2.2.2.2.2.2, place (s.2.2.2.2.2.2.2.2.1, 8))], 0)
noncomputable def P_grow : ((List (SEn)) × SSt × Int) → Bool
  | (l, s, op) => bif s.1 then cnfPre (l, (0, 0, 0), [untS (s.2.2.2.2.2.1, s.2.2.2.2.2.2.1)]) && bif cnfS (l, (0, 0, 0), [untS (s.2.2.2.2.2.1, s.2.2.2.2.2.2.1)]) then true else addPre (l, place (s.2.2.1, 4), place (s.2.2.2.1, 8), place (s.2.2.1, 4), op, 0, [], untS (s.2.2.2.2.2.1, s.2.2.2.2.2.2.1)) else bif (↑l.length : Int) == 0 then cnfPre (l, (0, 0, 0), [untS (s.2.2.2.2.2.1, s.2.2.2.2.2.2.1)]) && bif cnfS (l, (0, 0, 0), [untS (s.2.2.2.2.2.1, s.2.2.2.2.2.2.1)]) then true else addPre (l, place (s.2.2.1, 4), place (s.2.2.2.1, 8), place (s.2.2.1, 4), op, 0, [], untS (s.2.2.2.2.2.1, s.2.2.2.2.2.2.1)) else place_pre (s.2.1, (↑l.length : Int)) && (decide (0 ≤ place (s.2.1, (↑l.length : Int))) && decide (place (s.2.1, (↑l.length : Int)) < (↑l.length : Int)) && bif !s.2.2.2.2.2.2.2.2.2 then decide (0 ≤ IntKind.i64.wrap (IntKind.i64.wrap (1 + place (s.2.2.2.2.1, 6)) - 1)) && decide (IntKind.i64.wrap (IntKind.i64.wrap (1 + place (s.2.2.2.2.1, 6)) - 1) < (↑[IntKind.i64.wrap (6 + place (s.2.2.2.2.2.2.1, 10)), 12, 12, 6, 10, 16].length : Int)) && (decide (0 ≤ IntKind.u64.wrap ([IntKind.i64.wrap (6 + place (s.2.2.2.2.2.2.1, 10)), 12, 12, 6, 10, 16].getD (IntKind.i64.wrap (IntKind.i64.wrap (1 + place (s.2.2.2.2.1, 6)) - 1)).toNat 0)) && bif (retS ((l.getD (place (s.2.1, (↑l.length : Int))).toNat (0, 0, 0, 0, 0, [], 0, 0, 0, 0, 0, 0, false)).2.2.2.2.2.2, IntKind.i64.wrap (1 + place (s.2.2.2.2.1, 6)), [IntKind.i64.wrap (6 + place (s.2.2.2.2.2.2.1, 10)), 12, 12, 6, 10, 16].getD (IntKind.i64.wrap (IntKind.i64.wrap (1 + place (s.2.2.2.2.1, 6)) - 1)).toNat 0, place (s.2.2.2.2.2.2.2.2.1, 2), 32, IntKind.i64.wrap (place (s.2.2.2.2.2.1, 8) * 2 ^ min (IntKind.u64.wrap ([IntKind.i64.wrap (6 + place (s.2.2.2.2.2.2.1, 10)), 12, 12, 6, 10, 16].getD (IntKind.i64.wrap (IntKind.i64.wrap (1 + place (s.2.2.2.2.1, 6)) - 1)).toNat 0)).toNat IntKind.i64.bits), IntKind.i64.wrap (1 + place (s.2.2.2.2.2.2.2.1, 3)))).2 != 0 then true else cnfPre (l, ((l.getD (place (s.2.1, (↑l.length : Int))).toNat (0, 0, 0, 0, 0, [], 0, 0, 0, 0, 0, 0, false)).2.2.1, (l.getD (place (s.2.1, (↑l.length : Int))).toNat (0, 0, 0, 0, 0, [], 0, 0, 0, 0, 0, 0, false)).2.2.2.1, (l.getD (place (s.2.1, (↑l.length : Int))).toNat (0, 0, 0, 0, 0, [], 0, 0, 0, 0, 0, 0, false)).2.2.2.2.1), (retS ((l.getD (place (s.2.1, (↑l.length : Int))).toNat (0, 0, 0, 0, 0, [], 0, 0, 0, 0, 0, 0, false)).2.2.2.2.2.2, IntKind.i64.wrap (1 + place (s.2.2.2.2.1, 6)), [IntKind.i64.wrap (6 + place (s.2.2.2.2.2.2.1, 10)), 12, 12, 6, 10, 16].getD (IntKind.i64.wrap (IntKind.i64.wrap (1 + place (s.2.2.2.2.1, 6)) - 1)).toNat 0, place (s.2.2.2.2.2.2.2.2.1, 2), 32, IntKind.i64.wrap (place (s.2.2.2.2.2.1, 8) * 2 ^ min (IntKind.u64.wrap ([IntKind.i64.wrap (6 + place (s.2.2.2.2.2.2.1, 10)), 12, 12, 6, 10, 16].getD (IntKind.i64.wrap (IntKind.i64.wrap (1 + place (s.2.2.2.2.1, 6)) - 1)).toNat 0)).toNat IntKind.i64.bits), IntKind.i64.wrap (1 + place (s.2.2.2.2.2.2.2.1, 3)))).1) && bif cnfS (l, ((l.getD (place (s.2.1, (↑l.length : Int))).toNat (0, 0, 0, 0, 0, [], 0, 0, 0, 0, 0, 0, false)).2.2.1, (l.getD (place (s.2.1, (↑l.length : Int))).toNat (0, 0, 0, 0, 0, [], 0, 0, 0, 0, 0, 0, false)).2.2.2.1, (l.getD (place (s.2.1, (↑l.length : Int))).toNat (0, 0, 0, 0, 0, [], 0, 0, 0, 0, 0, 0, false)).2.2.2.2.1), (retS ((l.getD (place (s.2.1, (↑l.length : Int))).toNat (0, 0, 0, 0, 0, [], 0, 0, 0, 0, 0, 0, false)).2.2.2.2.2.2, IntKind.i64.wrap (1 + place (s.2.2.2.2.1, 6)), [IntKind.i64.wrap (6 + place (s.2.2.2.2.2.2.1, 10)), 12, 12, 6, 10, 16].getD (IntKind.i64.wrap (IntKind.i64.wrap (1 + place (s.2.2.2.2.1, 6)) - 1)).toNat 0, place (s.2.2.2.2.2.2.2.2.1, 2), 32, IntKind.i64.wrap (place (s.2.2.2.2.2.1, 8) * 2 ^ min (IntKind.u64.wrap ([IntKind.i64.wrap (6 + place (s.2.2.2.2.2.2.1, 10)), 12, 12, 6, 10, 16].getD (IntKind.i64.wrap (IntKind.i64.wrap (1 + place (s.2.2.2.2.1, 6)) - 1)).toNat 0)).toNat IntKind.i64.bits), IntKind.i64.wrap (1 + place (s.2.2.2.2.2.2.2.1, 3)))).1) then true else decide (List.length (retS ((l.getD (place (s.2.1, (↑l.length : Int))).toNat (0, 0, 0, 0, 0, [], 0, 0, 0, 0, 0, 0, false)).2.2.2.2.2.2, IntKind.i64.wrap (1 + place (s.2.2.2.2.1, 6)), [IntKind.i64.wrap (6 + place (s.2.2.2.2.2.2.1, 10)), 12, 12, 6, 10, 16].getD (IntKind.i64.wrap (IntKind.i64.wrap (1 + place (s.2.2.2.2.1, 6)) - 1)).toNat 0, place (s.2.2.2.2.2.2.2.2.1, 2), 32, IntKind.i64.wrap (place (s.2.2.2.2.2.1, 8) * 2 ^ min (IntKind.u64.wrap ([IntKind.i64.wrap (6 + place (s.2.2.2.2.2.2.1, 10)), 12, 12, 6, 10, 16].getD (IntKind.i64.wrap (IntKind.i64.wrap (1 + place (s.2.2.2.2.1, 6)) - 1)).toNat 0)).toNat IntKind.i64.bits), IntKind.i64.wrap (1 + place (s.2.2.2.2.2.2.2.1, 3)))).1 ≤ 1099511627776) && P_grow_0 (retS ((l.getD (place (s.2.1, (↑l.length : Int))).toNat (0, 0, 0, 0, 0, [], 0, 0, 0, 0, 0, 0, false)).2.2.2.2.2.2, IntKind.i64.wrap (1 + place (s.2.2.2.2.1, 6)), [IntKind.i64.wrap (6 + place (s.2.2.2.2.2.2.1, 10)), 12, 12, 6, 10, 16].getD (IntKind.i64.wrap (IntKind.i64.wrap (1 + place (s.2.2.2.2.1, 6)) - 1)).toNat 0, place (s.2.2.2.2.2.2.2.2.1, 2), 32, IntKind.i64.wrap (place (s.2.2.2.2.2.1, 8) * 2 ^ min (IntKind.u64.wrap ([IntKind.i64.wrap (6 + place (s.2.2.2.2.2.2.1, 10)), 12, 12, 6, 10, 16].getD (IntKind.i64.wrap (IntKind.i64.wrap (1 + place (s.2.2.2.2.1, 6)) - 1)).toNat 0)).toNat IntKind.i64.bits), IntKind.i64.wrap (1 + place (s.2.2.2.2.2.2.2.1, 3)))).1 (l, op, place (s.2.2.1, 4), place (s.2.2.2.1, 8), ((l.getD (place (s.2.1, (↑l.length : Int))).toNat (0, 0, 0, 0, 0, [], 0, 0, 0, 0, 0, 0, false)).2.2.1, (l.getD (place (s.2.1, (↑l.length : Int))).toNat (0, 0, 0, 0, 0, [], 0, 0, 0, 0, 0, 0, false)).2.2.2.1, (l.getD (place (s.2.1, (↑l.length : Int))).toNat (0, 0, 0, 0, 0, [], 0, 0, 0, 0, 0, 0, false)).2.2.2.2.1, (l.getD (place (s.2.1, (↑l.length : Int))).toNat (0, 0, 0, 0, 0, [], 0, 0, 0, 0, 0, 0, false)).2.2.2.2.2.1, (l.getD (place (s.2.1, (↑l.length : Int))).toNat (0, 0, 0, 0, 0, [], 0, 0, 0, 0, 0, 0, false)).2.2.2.2.2.2), (retS ((l.getD (place (s.2.1, (↑l.length : Int))).toNat (0, 0, 0, 0, 0, [], 0, 0, 0, 0, 0, 0, false)).2.2.2.2.2.2, IntKind.i64.wrap (1 + place (s.2.2.2.2.1, 6)), [IntKind.i64.wrap (6 + place (s.2.2.2.2.2.2.1, 10)), 12, 12, 6, 10, 16].getD (IntKind.i64.wrap (IntKind.i64.wrap (1 + place (s.2.2.2.2.1, 6)) - 1)).toNat 0, place (s.2.2.2.2.2.2.2.2.1, 2), 32, IntKind.i64.wrap (place (s.2.2.2.2.2.1, 8) * 2 ^ min (IntKind.u64.wrap ([IntKind.i64.wrap (6 + place (s.2.2.2.2.2.2.1, 10)), 12, 12, 6, 10, 16].getD (IntKind.i64.wrap (IntKind.i64.wrap (1 + place (s.2.2.2.2.1, 6)) - 1)).toNat 0)).toNat IntKind.i64.bits), IntKind.i64.wrap (1 + place (s.2.2.2.2.2.2.2.1, 3)))).1, 0)) else decide ([F_ratt ((l.getD (place (s.2.1, (↑l.length : Int))).toNat (0, 0, 0, 0, 0, [], 0, 0, 0, 0, 0, 0, false)).2.2.2.2.2.2, place (s.2.2.2.2.2.2.2.2.1, 8))].length ≤ 1099511627776) && P_grow_0 [F_ratt ((l.getD (place (s.2.1, (↑l.length : Int))).toNat (0, 0, 0, 0, 0, [], 0, 0, 0, 0, 0, 0, false)).2.2.2.2.2.2, place (s.2.2.2.2.2.2.2.2.1, 8))] (l, op, place (s.2.2.1, 4), place (s.2.2.2.1, 8), ((l.getD (place (s.2.1, (↑l.length : Int))).toNat (0, 0, 0, 0, 0, [], 0, 0, 0, 0, 0, 0, false)).2.2.1, (l.getD (place (s.2.1, (↑l.length : Int))).toNat (0, 0, 0, 0, 0, [], 0, 0, 0, 0, 0, 0, false)).2.2.2.1, (l.getD (place (s.2.1, (↑l.length : Int))).toNat (0, 0, 0, 0, 0, [], 0, 0, 0, 0, 0, 0, false)).2.2.2.2.1, (l.getD (place (s.2.1, (↑l.length : Int))).toNat (0, 0, 0, 0, 0, [], 0, 0, 0, 0, 0, 0, false)).2.2.2.2.2.1, (l.getD (place (s.2.1, (↑l.length : Int))).toNat (0, 0, 0, 0, 0, [], 0, 0, 0, 0, 0, 0, false)).2.2.2.2.2.2), [F_ratt ((l.getD (place (s.2.1, (↑l.length : Int))).toNat (0, 0, 0, 0, 0, [], 0, 0, 0, 0, 0, 0, false)).2.2.2.2.2.2, place (s.2.2.2.2.2.2.2.2.1, 8))], 0))
theorem grow_auto : ∀ a : (List (SEn)) × SSt × Int, Rns (fun f => M_grow f a) (P_grow a) (F_grow a)
  | (l, s, op) => ev_step (fun f => M_grow_eq f _ _ _) (ev_bif (ev_chk (ev_bif ev_some (ev_chk1 ev_some))) (ev_bif (ev_chk (ev_bif ev_some (ev_chk1 ev_some))) (ev_chk (ev_chk (ev_bif (ev_chk (ev_chk (ev_bif ev_some (ev_chk (ev_bif ev_some (ev_and fun hh => A_grow_0 _ _ _ _ _ _ _ _ rfl (of_decide_eq_true hh))))))) (ev_and fun hh => A_grow_0 _ _ _ _ _ _ _ _ rfl (of_decide_eq_true hh)))))))
theorem vnod_chl {src : SNd} {id : SId} {c : SCp} (h : (chlS (src, id, c)).2 = 0) : (chlS (src, id, c)).1 = mkN id (npath src ++ [nid src]) c ∧ vnodB (mkN id (npath src ++ [nid src]) c) = true ∧ vnodB src = true := by
  simp only [chlS] at h ⊢
  cases h1 : (!vnodB src || (!vidB id || (!vcapB c || (decide (id = nid src) || memD id (npath src)))))
  case true => rw [h1] at h; cases h
  cases h2 : decide ((npath src).length = 8)
  case true => rw [h1, h2] at h; cases h
  refine ⟨rfl, ?_⟩
  simp only [Bool.or_eq_false_iff, Bool.not_eq_false', decide_eq_false_iff_not, memD_not] at h1 h2
  obtain ⟨a1, a2, a3, a4, a5⟩ := h1
  refine ⟨?_, a1⟩
  rw [vnodB_iff] at a1 ⊢
  obtain ⟨b1, b2, b3, b4, b5, b6⟩ := a1
  refine ⟨a2, a3, ?_, ?_, ?_, ?_⟩
  · show (npath src ++ [nid src]).length ≤ 8
    simp; omega
  · intro q hq
    rcases List.mem_append.1 hq with hq | hq
    · exact b4 q hq
    · simp at hq; rw [hq]; exact b1
  · show (npath src ++ [nid src]).Nodup
    rw [List.nodup_append]
    exact ⟨b5, by simp, fun a ha b hb => by simp at hb; subst hb; exact fun e => b6 (e ▸ ha)⟩
  · show ¬ id ∈ npath src ++ [nid src]
    simp only [List.mem_append, List.mem_singleton]
    rintro (h | h)
    · exact a5 h
    · exact a4 h
theorem okE_vf {m : Int} {l : List SEn} (h : Vf m l) (hl : l.length ≤ 1000) : okE l = true :=
  okE_mk (by omega) (fun e he => decide_eq_true (by have := h.path he; show (epath e).length ≤ _; omega))
theorem vf_uniq {m : Int} {l : List SEn} (h : Vf m l) {a b : SEn} (ha : a ∈ l) (hb : b ∈ l) (he : eid a = eid b) : a = b := by
  have hs := h.sorted
  clear h
  induction l with
  | nil => cases ha
  | cons u r ih =>
    rw [List.pairwise_cons] at hs
    rcases List.mem_cons.1 ha with ea | ha2
    · rcases List.mem_cons.1 hb with eb | hb2
      · rw [ea, eb]
      · have := hs.1 b hb2; rw [← ea, he, less_irrefl] at this; cases this
    · rcases List.mem_cons.1 hb with eb | hb2
      · have := hs.1 a ha2; rw [← eb, he, less_irrefl] at this; cases this
      · exact ih ha2 hb2 hs.2
theorem addS_cases (l : List SEn) (c s : Int) (n : SNd) : addS (l, c, s, n) = l ∨ (addS (l, c, s, n) = insL (c, s, n) l ∧ (∀ x ∈ l, eid x ≠ nid n) ∧ ∀ x ∈ l, ¬ (x.1 = c ∧ x.2.1 = s)) := by
  cases f1 : decide (findE l (nid n) ≥ 0)
  case true =>
    left
    have : insS (l, c, s, n) = ([], false) := by show (bif decide (findE l (nid n) ≥ 0) || _ then _ else _) = _; rw [f1]; rfl
    simp only [addS, this]; rfl
  cases f2 : decide (atE l c s ≥ 0)
  case true =>
    left
    have : insS (l, c, s, n) = ([], false) := by show (bif decide (findE l (nid n) ≥ 0) || decide (atE l c s ≥ 0) then _ else _) = _; rw [f1, f2]; rfl
    simp only [addS, this]; rfl
  right
  have : insS (l, c, s, n) = (insL (c, s, n) l, true) := by show (bif decide (findE l (nid n) ≥ 0) || decide (atE l c s ≥ 0) then _ else _) = _; rw [f1, f2]; rfl
  exact ⟨by simp only [addS, this]; rfl, findE_not f1, atE_not f2⟩
theorem grow_0 (l : List SEn) (op core slot : Int) (sE : SEn) (caps : List SCp) (h0 : Vf (op - 1) l) (hop : 1 ≤ op) (hs : sE ∈ l) (hlen : l.length ≤ 900) (hcore : 0 ≤ core ∧ core < 4) (hslot : 0 ≤ slot ∧ slot < 8) :
    ∀ (r done : List SCp) (l' : List SEn) (i : Nat), i = done.length → done.length + r.length ≤ 8 → (done ++ r).Pairwise (fun a b => overlaps (rgC a, rgC b) = false) →
      (∀ u ∈ r, vcapB u = true ∧ contains (rgE sE, rgC u) = true ∧ ((ecap sE).1 = 1 ∨ sobB (ecap sE, u) = true) ∧ ∀ x ∈ l, coexB (ecap x, u) = true) →
      Vf op l' → (∀ x ∈ l, x ∈ l') → (∀ x ∈ l', x ∈ l ∨ (ecap x ∈ done ∧ (eid x).2.1 = op ∧ epath x = npath sE.2.2 ++ [nid sE.2.2])) → l'.length ≤ l.length + i →
      P_grow_0 r (l', op, core, slot, sE.2.2, caps, i) = true ∧ Vf op (F_grow_0 r (l', op, core, slot, sE.2.2, caps, i)) ∧ (F_grow_0 r (l', op, core, slot, sE.2.2, caps, i)).length ≤ l.length + 8
  | [], done, l', i, hi, h8, hp, hu, hv, hsub, hof, hl => ⟨rfl, hv, by simp only [F_grow_0]; simp at h8; omega⟩
  | u :: r, done, l', i, hi, h8, hp, hu, hv, hsub, hof, hl => by
    simp only [List.length_cons] at h8
    obtain ⟨u1, u2, u3, u4⟩ := hu u (List.mem_cons_self ..)
    have hw : IntKind.i64.wrap (slot + (i : Int)) = slot + (i : Int) := i64_id (by omega) (by omega)
    simp only [F_grow_0, P_grow_0, hw, bneI]
    by_cases hc : (chlS (sE.2.2, (core, op, (i : Int)), u)).2 = 0
    case neg =>
      simp only [decide_eq_false hc, Bool.not_false, cond_true]
      exact ⟨trivial, hv, by omega⟩
    obtain ⟨c1, c2, c3⟩ := vnod_chl hc
    simp only [decide_eq_true hc, Bool.not_true, cond_false, c1]
    have hok : addPre (l', core, slot + (i : Int), mkN (core, op, (i : Int)) (npath sE.2.2 ++ [nid sE.2.2]) u) = true := by
      simp only [addPre, insPre, Bool.and_eq_true]
      refine ⟨okE_vf hv (by omega), decide_eq_true ?_⟩
      have := vnodB_len c2
      show (npath sE.2.2 ++ [nid sE.2.2]).length ≤ _
      exact Nat.le_trans this (by omega)
    rw [hok, Bool.true_and]
    have hpath : ∀ q ∈ npath sE.2.2 ++ [nid sE.2.2], q.2.1 ≤ op - 1 := by
      intro q hq
      rcases List.mem_append.1 hq with hq | hq
      · exact (h0.ops sE hs).2 q hq
      · simp at hq; rw [hq]; exact (h0.ops sE hs).1
    have next : ∀ l2 : List SEn, Vf op l2 → (∀ x ∈ l, x ∈ l2) → (∀ x ∈ l2, x ∈ l ∨ (ecap x ∈ done ++ [u] ∧ (eid x).2.1 = op ∧ epath x = npath sE.2.2 ++ [nid sE.2.2])) → l2.length ≤ l'.length + 1 →
        P_grow_0 r (l2, op, core, slot, sE.2.2, caps, i + 1) = true ∧ Vf op (F_grow_0 r (l2, op, core, slot, sE.2.2, caps, i + 1)) ∧ (F_grow_0 r (l2, op, core, slot, sE.2.2, caps, i + 1)).length ≤ l.length + 8 := fun l2 v2 s2 o2 n2 =>
      grow_0 l op core slot sE caps h0 hop hs hlen hcore hslot r (done ++ [u]) l2 (i + 1) (by simp [hi]) (by simp; omega) (by simpa using hp) (fun v hv => hu v (List.mem_cons_of_mem _ hv)) v2 s2 o2 (by omega)
    have old : ∀ x ∈ l', x ∈ l ∨ (ecap x ∈ done ++ [u] ∧ (eid x).2.1 = op ∧ epath x = npath sE.2.2 ++ [nid sE.2.2]) := fun x hx => (hof x hx).imp id fun ⟨a, b⟩ => ⟨List.mem_append_left _ a, b⟩
    rcases addS_cases l' core (slot + (i : Int)) (mkN (core, op, (i : Int)) (npath sE.2.2 ++ [nid sE.2.2]) u) with h | ⟨h, hid, hat⟩
    · rw [h]; exact next l' hv hsub old (by omega)
    rw [h]
    obtain ⟨e, he⟩ : ∃ e : SEn, e = (core, slot + (i : Int), mkN (core, op, (i : Int)) (npath sE.2.2 ++ [nid sE.2.2]) u) := ⟨_, rfl⟩
    rw [← he]
    have e1 : eid e = (core, op, (i : Int)) := by rw [he]; rfl
    have e2 : epath e = npath sE.2.2 ++ [nid sE.2.2] := by rw [he]; rfl
    have e3 : ecap e = u := by rw [he]; rfl
    have e4 : e.1 = core := by rw [he]
    have e5 : e.2.1 = slot + (i : Int) := by rw [he]
    have e6 : e.2.2 = mkN (core, op, (i : Int)) (npath sE.2.2 ++ [nid sE.2.2]) u := by rw [he]
    have hid : ∀ x ∈ l', eid x ≠ eid e := by rw [e1]; exact hid
    have hat : ∀ x ∈ l', ¬ (x.1 = e.1 ∧ x.2.1 = e.2.1) := by rw [e4, e5]; exact hat
    refine next (insL e l') ?_ (fun x hx => mem_insL.2 (.inr (hsub x hx))) (fun x hx => ?_) (by rw [len_insL]; omega)
    · refine hv.ins (Int.le_refl _) (by rw [e6]; exact c2) ⟨by rw [e4]; exact hcore, by rw [e5]; omega⟩ hid hat (fun x hx => ?_) (fun p hp2 k hk => ?_) (fun x hx hm => ?_) ⟨by rw [e1]; exact Int.le_refl _, fun q hq => by rw [e2] at hq; have := hpath q hq; omega⟩ (by rw [e1, e4])
      · rw [e3]
        rcases hof x hx with hx | ⟨hx, _⟩
        · exact u4 x hx
        · exact (coexB_iff _ _).2 (.inl ((List.pairwise_append.1 hp).2.2 _ hx u (List.mem_cons_self ..)))
      · rw [e2] at hk ⊢
        have hrg : rgE e = rgC u := by unfold rgE; rw [e3]
        rw [hrg, e3]
        have hpo := hpath _ (List.mem_of_getElem? hk)
        have hpl : p ∈ l := by
          rcases hof p hp2 with h | ⟨_, h, _⟩
          · exact h
          · omega
        by_cases hkl : k < (npath sE.2.2).length
        · rw [List.getElem?_append_left hkl] at hk
          obtain ⟨a1, a2, a3⟩ := h0.anc p hpl sE hs k hk
          refine ⟨by rw [a1, List.take_append_of_le_length (by omega)]; rfl, cont_trans a2 u2, ?_⟩
          rcases a3 with a3 | a3
          · exact .inl a3
          · rcases u3 with u3 | u3
            · exact .inl (by rw [(sob_rg a3).2]; exact u3)
            · exact .inr (sob_trans a3 u3)
        · rw [List.getElem?_append_right (by omega)] at hk
          have hk0 : k - (npath sE.2.2).length = 0 := by
            rcases Nat.eq_zero_or_pos (k - (npath sE.2.2).length) with h | h
            · exact h
            · rw [List.getElem?_eq_none (by simp; omega)] at hk; cases hk
          rw [hk0] at hk
          have hpe : eid p = eid sE := by
            have h9 : some (nid sE.2.2) = some (eid p) := hk
            exact (Option.some.inj h9).symm
          have := vf_uniq h0 hpl hs hpe
          subst this
          refine ⟨?_, u2, u3⟩
          rw [show k = (npath p.2.2).length by omega]
          simp; rfl
      · rw [e1] at hm
        rcases hof x hx with hx | ⟨_, _, hx⟩
        · have := (h0.ops x hx).2 _ hm
          simp only at this; omega
        · rw [hx] at hm
          have := hpath _ hm
          simp only at this; omega
    · rcases mem_insL.1 hx with rfl | hx
      · exact .inr ⟨by rw [e3]; simp, by rw [e1], e2⟩
      · exact old x hx
def gRoot (l : List SEn) (s : SSt) (op : Int) : List SEn := bif cnfS (l, (0, 0, 0), [untS (s.2.2.2.2.2.1, s.2.2.2.2.2.2.1)]) then l
  else addS (l, place (s.2.2.1, 4), place (s.2.2.2.1, 8), mkN (place (s.2.2.1, 4), op, 0) [] (untS (s.2.2.2.2.2.1, s.2.2.2.2.2.2.1)))
def gSrc (l : List SEn) (s : SSt) : SEn := l.getD (place (s.2.1, ((l.length : Nat) : Int))).toNat zEn
def gKind (s : SSt) : Int := IntKind.i64.wrap (1 + place (s.2.2.2.2.1, 6))
def gBits (s : SSt) : Int := [IntKind.i64.wrap (6 + place (s.2.2.2.2.2.2.1, 10)), 12, 12, 6, 10, 16].getD (IntKind.i64.wrap (gKind s - 1)).toNat 0
def gRet (l : List SEn) (s : SSt) : List SCp × Int := retS (ecap (gSrc l s), gKind s, gBits s, place (s.2.2.2.2.2.2.2.2.1, 2), 32, IntKind.i64.wrap (place (s.2.2.2.2.2.1, 8) * 2 ^ min (IntKind.u64.wrap (gBits s)).toNat IntKind.i64.bits), IntKind.i64.wrap (1 + place (s.2.2.2.2.2.2.2.1, 3)))
theorem grow_F0 (l : List SEn) (s : SSt) (op : Int) : F_grow (l, s, op) = bif s.1 then gRoot l s op else bif ((l.length : Nat) : Int) == 0 then gRoot l s op
    else bif !s.2.2.2.2.2.2.2.2.2 then (bif (gRet l s).2 != 0 then l else bif cnfS (l, eid (gSrc l s), (gRet l s).1) then l else F_grow_0 (gRet l s).1 (l, op, place (s.2.2.1, 4), place (s.2.2.2.1, 8), (gSrc l s).2.2, (gRet l s).1, 0))
    else F_grow_0 [F_ratt (ecap (gSrc l s), place (s.2.2.2.2.2.2.2.2.1, 8))] (l, op, place (s.2.2.1, 4), place (s.2.2.2.1, 8), (gSrc l s).2.2, [F_ratt (ecap (gSrc l s), place (s.2.2.2.2.2.2.2.2.1, 8))], 0) := rfl
def pRoot (l : List SEn) (s : SSt) (op : Int) : Bool := cnfPre (l, (0, 0, 0), [untS (s.2.2.2.2.2.1, s.2.2.2.2.2.2.1)]) && bif cnfS (l, (0, 0, 0), [untS (s.2.2.2.2.2.1, s.2.2.2.2.2.2.1)]) then true
  else addPre (l, place (s.2.2.1, 4), place (s.2.2.2.1, 8), mkN (place (s.2.2.1, 4), op, 0) [] (untS (s.2.2.2.2.2.1, s.2.2.2.2.2.2.1)))
theorem grow_P0 (l : List SEn) (s : SSt) (op : Int) : P_grow (l, s, op) = bif s.1 then pRoot l s op else bif ((l.length : Nat) : Int) == 0 then pRoot l s op
    else place_pre (s.2.1, ((l.length : Nat) : Int)) && (decide (0 ≤ place (s.2.1, ((l.length : Nat) : Int))) && decide (place (s.2.1, ((l.length : Nat) : Int)) < ((l.length : Nat) : Int)) &&
      bif !s.2.2.2.2.2.2.2.2.2 then (decide (0 ≤ IntKind.i64.wrap (gKind s - 1)) && decide (IntKind.i64.wrap (gKind s - 1) < (([IntKind.i64.wrap (6 + place (s.2.2.2.2.2.2.1, 10)), 12, 12, 6, 10, 16].length : Nat) : Int)) && (decide (0 ≤ IntKind.u64.wrap (gBits s)) &&
        bif (gRet l s).2 != 0 then true else cnfPre (l, eid (gSrc l s), (gRet l s).1) && bif cnfS (l, eid (gSrc l s), (gRet l s).1) then true else decide ((gRet l s).1.length ≤ 1099511627776) && P_grow_0 (gRet l s).1 (l, op, place (s.2.2.1, 4), place (s.2.2.2.1, 8), (gSrc l s).2.2, (gRet l s).1, 0)))
      else decide ([F_ratt (ecap (gSrc l s), place (s.2.2.2.2.2.2.2.2.1, 8))].length ≤ 1099511627776) && P_grow_0 [F_ratt (ecap (gSrc l s), place (s.2.2.2.2.2.2.2.2.1, 8))] (l, op, place (s.2.2.1, 4), place (s.2.2.2.1, 8), (gSrc l s).2.2, [F_ratt (ecap (gSrc l s), place (s.2.2.2.2.2.2.2.2.1, 8))], 0)) := rfl
theorem any_false {α : Type} {p : α → Bool} {l : List α} (h : l.any p = false) : ∀ x ∈ l, p x = false := fun x hx => by
  cases h2 : p x with
  | false => rfl
  | true => rw [List.any_eq_true.2 ⟨x, hx, h2⟩] at h; cases h
theorem unt_ok (a : Int × Int) : vcapB (untS a) = true := by
  have h := small_valid a
  obtain ⟨h1, h2, _⟩ := valid_elim h
  simp only [vcapB, untS, Bool.and_eq_true, decide_eq_true_eq]
  refine ⟨by rw [sizB_iff]; omega, h, rfl, rfl, rfl, rfl⟩
theorem hit_none {l : List SEn} {s : Int} (hs : s < 0) {c : SCp} {e : SEn} (h : hitE l s c e = false) : coexB (ecap e, c) = true := by
  simp only [hitE, decide_eq_false (show ¬ s ≥ 0 by omega), Bool.false_and, Bool.not_false, Bool.and_true] at h
  exact (coexB_iff _ _).2 (.inl h)
theorem findE_at {l : List SEn} {id : SId} {e : SEn} (he : e ∈ l) (hid : eid e = id) : 0 ≤ findE l id ∧ findE l id < l.length ∧ ∃ x ∈ l, eid x = id ∧ l.getD (findE l id).toNat zEn = x := by
  have h1 : 0 ≤ findE l id := by
    rcases findI_ge (p := fun e : SEn => decide (eid e = id)) (l := l) (k := 0) (by omega) with h | h
    · exact h
    · have := (findI_none (p := fun e : SEn => decide (eid e = id)) (by omega)).2 h e he
      simp [hid] at this
  obtain ⟨j, x, e1, e2, e3, _⟩ := findI_some (p := fun e : SEn => decide (eid e = id)) (l := l) (k := 0) (by omega) h1
  have hj := (List.getElem?_eq_some_iff.1 e2).1
  refine ⟨h1, ?_, x, List.mem_of_getElem? e2, by simpa using e3, ?_⟩
  · show findI _ l 0 < _; rw [e1]; omega
  · have : (findE l id).toNat = j := by show (findI _ l 0).toNat = j; rw [e1]; omega
    rw [this, List.getD_eq_getElem?_getD, e2]; rfl
theorem findE_zero {m : Int} {l : List SEn} (h : Vf m l) : findE l (0, 0, 0) < 0 := by
  rcases findI_ge (p := fun e : SEn => decide (eid e = (0, 0, 0))) (l := l) (k := 0) (by omega) with h1 | h1
  · obtain ⟨j, x, e1, e2, e3, _⟩ := findI_some (p := fun e : SEn => decide (eid e = (0, 0, 0))) (l := l) (k := 0) (by omega) h1
    have hx := List.mem_of_getElem? e2
    have h2 := ((vnodB_iff x.2.2).1 (h.node x hx)).1
    have h3 : eid x = (0, 0, 0) := by simpa using e3
    have h4 : nid x.2.2 = (0, 0, 0) := h3
    rw [h4, vidB_iff] at h2
    simp at h2
  · show findI _ l 0 < 0; rw [h1]; omega
theorem gRoot_ok {l : List SEn} {op : Int} (h : Vf (op - 1) l) (hop : 1 ≤ op) (hop2 : op ≤ 1000) (hl : l.length ≤ 900) (s : SSt) : pRoot l s op = true ∧ Vf op (gRoot l s op) ∧ (gRoot l s op).length ≤ l.length + 8 := by
  have k4 := place_range s.2.2.1 (s := 4) (by omega)
  have k8 := place_range s.2.2.2.1 (s := 8) (by omega)
  have hu := unt_ok (s.2.2.2.2.2.1, s.2.2.2.2.2.2.1)
  simp only [pRoot, gRoot]
  have p1 : cnfPre (l, (0, 0, 0), [untS (s.2.2.2.2.2.1, s.2.2.2.2.2.2.1)]) = true := by
    simp only [cnfPre, Bool.and_eq_true]; exact ⟨decide_eq_true (by omega), decide_eq_true (by simp)⟩
  rw [p1, Bool.true_and]
  cases hc : cnfS (l, (0, 0, 0), [untS (s.2.2.2.2.2.1, s.2.2.2.2.2.2.1)])
  case true => exact ⟨rfl, h.mono (by omega), by simp⟩
  simp only [cond_false]
  generalize untS (s.2.2.2.2.2.1, s.2.2.2.2.2.2.1) = u at hu hc ⊢
  have hn : vnodB (mkN (place (s.2.2.1, 4), op, 0) [] u) = true := by
    rw [vnodB_iff]
    refine ⟨(vidB_iff _).2 (by show 0 ≤ place (s.2.2.1, 4) ∧ place (s.2.2.1, 4) < 32 ∧ 1 ≤ op ∧ op ≤ 1073741824 ∧ (0 : Int) ≤ 0 ∧ (0 : Int) < 8; omega), hu, by show 0 ≤ 8; omega, fun q hq => (by cases hq), List.nodup_nil, fun hq => (by cases hq)⟩
  refine ⟨?_, ?_⟩
  · simp only [addPre, insPre, Bool.and_eq_true]
    exact ⟨okE_vf h (by omega), rfl⟩
  · rcases addS_cases l (place (s.2.2.1, 4)) (place (s.2.2.2.1, 8)) (mkN (place (s.2.2.1, 4), op, 0) [] u) with h1 | ⟨h1, hid, hat⟩
    · rw [h1]; exact ⟨h.mono (by omega), by omega⟩
    · rw [h1]
      refine ⟨h.ins (by omega) hn ⟨k4, ⟨k8.1, show place (s.2.2.2.1, 8) < 64 by omega⟩⟩ hid hat (fun x hx => ?_) (fun p hp k hk => ?_) (fun x hx hm => ?_) ⟨Int.le_refl _, fun q hq => by cases hq⟩ rfl, by rw [len_insL]; omega⟩
      · simp only [cnfS, List.any_cons, List.any_nil, Bool.or_false] at hc
        exact hit_none (findE_zero h) (any_false hc x hx)
      · have : epath ((place (s.2.2.1, 4), place (s.2.2.2.1, 8), mkN (place (s.2.2.1, 4), op, 0) [] u) : SEn) = [] := rfl
        rw [this] at hk; simp at hk
      · have := (h.ops x hx).2 _ hm
        have e : (eid ((place (s.2.2.1, 4), place (s.2.2.2.1, 8), mkN (place (s.2.2.1, 4), op, 0) [] u) : SEn)).2.1 = op := rfl
        rw [e] at this; omega
theorem att_sob (c : SCp) (m : Int) : sobB (c, F_ratt (c, m)) = true := (sobB_iff _ _).2 ⟨rfl, rfl, rfl, rfl, rfl, rfl⟩
theorem and_range (r m : Int) (hr : 0 ≤ r ∧ r ≤ 7) (hm : 0 ≤ m ∧ m ≤ 7) : 0 ≤ IntKind.i64.wrap (((BitVec.ofInt IntKind.i64.bits r &&& BitVec.ofInt IntKind.i64.bits m).toNat : Nat) : Int) ∧ IntKind.i64.wrap (((BitVec.ofInt IntKind.i64.bits r &&& BitVec.ofInt IntKind.i64.bits m).toNat : Nat) : Int) ≤ 7 := by
  have h1 : ∀ a : Fin 8, ∀ b : Fin 8, 0 ≤ IntKind.i64.wrap (((BitVec.ofInt IntKind.i64.bits (a.val : Int) &&& BitVec.ofInt IntKind.i64.bits (b.val : Int)).toNat : Nat) : Int) ∧ IntKind.i64.wrap (((BitVec.ofInt IntKind.i64.bits (a.val : Int) &&& BitVec.ofInt IntKind.i64.bits (b.val : Int)).toNat : Nat) : Int) ≤ 7 := by decide +kernel
  have := h1 ⟨r.toNat, by omega⟩ ⟨m.toNat, by omega⟩
  simpa [Int.toNat_of_nonneg hr.1, Int.toNat_of_nonneg hm.1] using this
theorem att_ok {c : SCp} (h : vcapB c = true) (m : Int) (hm : 0 ≤ m ∧ m ≤ 7) : vcapB (F_ratt (c, m)) = true := by
  simp only [vcapB, Bool.and_eq_true, decide_eq_true_eq] at h ⊢
  have := and_range c.2.2.2.1 m ⟨h.2.2.1, h.2.2.2.1⟩ hm
  exact ⟨h.1, h.2.1, this.1, this.2, h.2.2.2.2⟩
theorem grow_ok {l : List SEn} {op : Int} (h : Vf (op - 1) l) (hop : 1 ≤ op) (hop2 : op ≤ 1000) (hl : l.length ≤ 900) (s : SSt) : P_grow (l, s, op) = true ∧ Vf op (F_grow (l, s, op)) ∧ (F_grow (l, s, op)).length ≤ l.length + 8 := by
  rw [grow_P0, grow_F0]
  cases hroot : s.1
  case true => exact gRoot_ok h hop hop2 hl s
  cases h0 : (((l.length : Nat) : Int) == 0)
  case true => exact gRoot_ok h hop hop2 hl s
  simp only [cond_false]
  have hpos : 0 < ((l.length : Nat) : Int) := by
    have : ¬ ((l.length : Nat) : Int) = 0 := by simpa using h0
    omega
  have kp := place_range s.2.1 hpos
  have k4 := place_range s.2.2.1 (s := 4) (by omega)
  have k8 := place_range s.2.2.2.1 (s := 8) (by omega)
  have k6 := place_range s.2.2.2.2.1 (s := 6) (by omega)
  have k7 := place_range s.2.2.2.2.2.2.2.2.1 (s := 8) (by omega)
  have hpp : place_pre (s.2.1, ((l.length : Nat) : Int)) = true := decide_eq_true (by show ((l.length : Nat) : Int) ≤ _; omega)
  have hsm : gSrc l s ∈ l := by
    have : (place (s.2.1, ((l.length : Nat) : Int))).toNat < l.length := by omega
    simp only [gSrc]
    rw [List.getD_eq_getElem?_getD, List.getElem?_eq_getElem this]
    exact List.getElem_mem this
  rw [hpp, decide_eq_true kp.1, decide_eq_true kp.2]
  simp only [Bool.true_and]
  have hsv := h.node _ hsm
  have hsc := ((vnodB_iff _).1 hsv).2.1
  cases hcp : s.2.2.2.2.2.2.2.2.2
  case true =>
    simp only [Bool.not_true, cond_false]
    have := grow_0 l op (place (s.2.2.1, 4)) (place (s.2.2.2.1, 8)) (gSrc l s) [F_ratt (ecap (gSrc l s), place (s.2.2.2.2.2.2.2.2.1, 8))] h hop hsm hl k4 k8 [F_ratt (ecap (gSrc l s), place (s.2.2.2.2.2.2.2.2.1, 8))] [] l 0 rfl (by simp) (by simp)
      (fun u hu => by
        simp at hu; subst hu
        have hs := att_sob (ecap (gSrc l s)) (place (s.2.2.2.2.2.2.2.2.1, 8))
        refine ⟨att_ok hsc _ (by omega), ?_, .inr hs, fun x hx => coex_sob (h.coex x hx _ hsm) hs⟩
        show contains (rgC (ecap (gSrc l s)), _) = true
        rw [← (sob_rg hs).1]
        exact cont_refl (vcapB_valid hsc))
      (h.mono (by omega)) (fun x hx => hx) (fun x hx => .inl hx) (by omega)
    exact ⟨by rw [this.1]; rfl, this.2⟩
  simp only [Bool.not_false, cond_true]
  have hk : gKind s = 1 + place (s.2.2.2.2.1, 6) := i64_id (by omega) (by omega)
  have hk1 : IntKind.i64.wrap (gKind s - 1) = place (s.2.2.2.2.1, 6) := by rw [hk, i64_id (by omega) (by omega)]; omega
  rw [hk1, decide_eq_true k6.1, decide_eq_true (show place (s.2.2.2.2.1, 6) < (([IntKind.i64.wrap (6 + place (s.2.2.2.2.2.2.1, 10)), 12, 12, 6, 10, 16].length : Nat) : Int) from k6.2), decide_eq_true (u64_nn (gBits s))]
  simp only [Bool.true_and, bneI]
  by_cases hr : (gRet l s).2 = 0
  case neg => simp only [decide_eq_false hr, Bool.not_false, cond_true]; exact ⟨trivial, h.mono (by omega), by omega⟩
  simp only [decide_eq_true hr, Bool.not_true, cond_false]
  have ro : RetOk (ecap (gSrc l s)) (gRet l s).1 := retS_ok hr
  have p1 : cnfPre (l, eid (gSrc l s), (gRet l s).1) = true := by
    simp only [cnfPre, Bool.and_eq_true]; exact ⟨decide_eq_true (by omega), decide_eq_true (by have := ro.len; omega)⟩
  rw [p1, Bool.true_and]
  cases hc : cnfS (l, eid (gSrc l s), (gRet l s).1)
  case true => exact ⟨rfl, h.mono (by omega), by simp⟩
  simp only [cond_false]
  obtain ⟨f1, f2, x0, f3, f4, f5⟩ := findE_at hsm rfl
  have hx0 : x0 = gSrc l s := vf_uniq h f3 hsm f4
  rw [hx0] at f5
  have := grow_0 l op (place (s.2.2.1, 4)) (place (s.2.2.2.1, 8)) (gSrc l s) (gRet l s).1 h hop hsm hl k4 k8 (gRet l s).1 [] l 0 rfl (by simpa using ro.len) (by simpa using ro.apart)
    (fun u hu => by
      obtain ⟨c1, c2⟩ := ro.caps u hu
      refine ⟨c1, c2, .inl ro.src1, fun x hx => ?_⟩
      have hh := any_false (any_false hc u hu) x hx
      simp only [hitE, f5, decide_eq_true (show findE l (eid (gSrc l s)) ≥ 0 from f1), Bool.true_and, Bool.and_eq_false_imp, Bool.not_eq_false', Bool.and_eq_true, decide_eq_true_eq] at hh
      cases ho : overlaps (rgE x, rgC u)
      · exact (coexB_iff _ _).2 (.inl ho)
      · obtain ⟨g1, g2⟩ := hh ho
        exact (coexB_iff _ _).2 (.inr (.inr (.inl ⟨g1, cont_trans g2 c2⟩))))
    (h.mono (by omega)) (fun x hx => hx) (fun x hx => .inl hx) (by omega)
  exact ⟨by rw [this.1, decide_eq_true (show (gRet l s).1.length ≤ 1099511627776 by have := ro.len; omega)]; rfl, this.2⟩
theorem grow_P : ∀ a, P_grow a = true → P_grow a = true := fun _ h => h
theorem grow_F : ∀ a, P_grow a = true → F_grow a = F_grow a := fun _ _ => rfl
theorem grow_run : ∀ a, (P_grow : (List (SEn)) × SSt × Int → Bool) a = true → ∃ f, M_grow f a = some ((F_grow : (List (SEn)) × SSt × Int → (List (SEn))) a) := fun a h => by have h1 := grow_auto a (grow_P a h); rw [grow_F a h] at h1; exact h1
noncomputable def E_grow : Ent := ⟨71, [.c (.sl tSEn), .g tSSt, .c (.int .i64)], [.v (.sl tSEn)], fun a => (P_grow : (List (SEn)) × SSt × Int → Bool) a, fun a => (F_grow : (List (SEn)) × SSt × Int → (List (SEn))) a⟩
theorem E_grow_ok : E_grow.Ok Try.prog := fun a hp vs hv => (grow_run a hp).elim fun f h => fnX_ok (C := C_grow) (Lt := Lt_grow) (fn := Try.f71) (rs := [.tmp 6]) [.c (.sl tSEn), .g tSSt, .c (.int .i64)] [.v (.sl tSEn)] mixed es_grow Try.func71 rfl rfl rfl (by kernel_rfl) (by kernel_rfl) f h vs hv
noncomputable def C_fors : Cfg := ⟨Try.prog, [E_grow], pmT [], 29, [], []⟩
theorem es_fors : EsOk Try.prog [E_grow] [] := es_cons E_grow_ok (es_nil)
def Lt_fors : Nat → LD := ldT [(0, ⟨[.rd 0 tSSt, .c 3 (.sl tSEn), .c 4 (.int .i64)], [], 0⟩)]
noncomputable def M_fors (f : Nat) (a : (List (SSt))) : Option ((List (SEn))) := (runX (C_fors) Lt_fors (Kret Try.prog [.tmp 2] [.v (.sl tSEn)]) f [.code (bodyOf Try.f53)] (initX [.rd tSSt] a) : Option (ResT [.v (.sl tSEn)]))
noncomputable def L_fors_0 (f : Nat) (x : (List (SSt)) × (List (SEn)) × Int) : Option ((List (SEn))) := (runX (C_fors) Lt_fors (Kret Try.prog [.tmp 2] [.v (.sl tSEn)]) f (headOf Try.f53 0) ((Lt_fors 0).mk' x) : Option (ResT [.v (.sl tSEn)]))
theorem M_fors_eq (f : Nat) (l : List (SSt)) : M_fors (f + 1) l =
    L_fors_0 f (l, [], 0) := by kernel_rfl
theorem L_fors_0_eq (f : Nat) (l : List (SSt)) (out : List (SEn)) (i : Int) : L_fors_0 (f + 1) (l, out, i) =
    bif decide (i < (↑l.length : Int)) then bif decide (i < 40) then bif decide ((↑out.length : Int) < 24) then bif decide (0 ≤ i) && decide (i < (↑l.length : Int)) then bif P_grow (out, l.getD i.toNat (false, 0, 0, 0, 0, 0, 0, 0, 0, false), IntKind.i64.wrap (i + 1)) then L_fors_0 f (l, F_grow (out, l.getD i.toNat (false, 0, 0, 0, 0, 0, 0, 0, 0, false), IntKind.i64.wrap (i + 1)), IntKind.i64.wrap (i + 1)) else none else none else some out else some out else some out := by kernel_rfl
noncomputable def F_fors_0 : List (SSt) → ((List (SSt)) × (List (SEn)) × Nat) → (List (SEn))
  | [], (l, out, i) => out
  | uu :: rest, (l, out, i) => bif decide ((↑i : Int) < 40) then bif decide ((↑out.length : Int) < 24) then F_fors_0 rest (l, F_grow (out, uu, (↑(i + 1) : Int)), i + 1) else out else out
noncomputable def P_fors_0 : List (SSt) → ((List (SSt)) × (List (SEn)) × Nat) → Bool
  | [], (l, out, i) => true
  | uu :: rest, (l, out, i) => bif decide ((↑i : Int) < 40) then bif decide ((↑out.length : Int) < 24) then P_grow (out, uu, (↑(i + 1) : Int)) && P_fors_0 rest (l, F_grow (out, uu, (↑(i + 1) : Int)), i + 1) else true else true
noncomputable def F_fors : (List (SSt)) → (List (SEn))
  | l => F_fors_0 l (l, [], 0)
theorem fors_0 (l : List SSt) : ∀ (r : List SSt) (out : List SEn) (i : Nat), Vf (i : Int) out → i ≤ 40 → out.length ≤ 31 → P_fors_0 r (l, out, i) = true ∧ Vf 40 (F_fors_0 r (l, out, i)) ∧ (F_fors_0 r (l, out, i)).length ≤ 31
  | [], out, i, h, hi, hl => ⟨rfl, h.mono (by omega), hl⟩
  | u :: r, out, i, h, hi, hl => by
    simp only [F_fors_0, P_fors_0]
    by_cases h1 : (i : Int) < 40
    case neg => simp only [decide_eq_false h1, cond_false]; exact ⟨trivial, h.mono (by omega), hl⟩
    by_cases h2 : ((out.length : Nat) : Int) < 24
    case neg => simp only [decide_eq_true h1, decide_eq_false h2, cond_true, cond_false]; exact ⟨trivial, h.mono (by omega), hl⟩
    simp only [decide_eq_true h1, decide_eq_true h2, cond_true]
    obtain ⟨g1, g2, g3⟩ := grow_ok (l := out) (op := ((i + 1 : Nat) : Int)) (by rw [show ((i + 1 : Nat) : Int) - 1 = (i : Int) by omega]; exact h) (by omega) (by omega) (by omega) u
    obtain ⟨f1, f2, f3⟩ := fors_0 l r (F_grow (out, u, ((i + 1 : Nat) : Int))) (i + 1) g2 (by omega) (by omega)
    exact ⟨by rw [g1, f1]; rfl, f2, f3⟩
noncomputable def forest (a : List SSt) : List SEn := F_fors a
theorem fors_loop : ∀ (rest pre : List SSt) (out : List SEn), Vf ((pre.length : Nat) : Int) out → pre.length ≤ 40 → out.length ≤ 31 → ∃ f, L_fors_0 f (pre ++ rest, out, ((pre.length : Nat) : Int)) = some (F_fors_0 rest (pre ++ rest, out, pre.length))
  | [], pre, out, h, hp, hl => ⟨1, (L_fors_0_eq 0 _ _ _).trans (by rw [lt_end]; rfl)⟩
  | u :: rest, pre, out, h, hp, hl => by
    have e1 : IntKind.i64.wrap (((pre.length : Nat) : Int) + 1) = ((pre.length + 1 : Nat) : Int) := by rw [i64_id (by omega) (by omega)]; rfl
    by_cases h1 : ((pre.length : Nat) : Int) < 40
    case neg =>
      refine ⟨1, (L_fors_0_eq 0 _ _ _).trans ?_⟩
      rw [lt_mid]
      simp only [F_fors_0, decide_eq_false h1]; rfl
    by_cases h2 : ((out.length : Nat) : Int) < 24
    case neg =>
      refine ⟨1, (L_fors_0_eq 0 _ _ _).trans ?_⟩
      rw [lt_mid]
      simp only [F_fors_0, decide_eq_true h1, decide_eq_false h2]; rfl
    obtain ⟨g1, g2, g3⟩ := grow_ok (l := out) (op := ((pre.length + 1 : Nat) : Int)) (by rw [show ((pre.length + 1 : Nat) : Int) - 1 = ((pre.length : Nat) : Int) by omega]; exact h) (by omega) (by omega) (by omega) u
    obtain ⟨f, hf⟩ := fors_loop rest (pre ++ [u]) (F_grow (out, u, ((pre.length + 1 : Nat) : Int))) (by rw [show (pre ++ [u]).length = pre.length + 1 by simp]; exact g2) (by simp; omega) (by omega)
    refine ⟨f + 1, (L_fors_0_eq f _ _ _).trans ?_⟩
    rw [lt_mid, getD_mid, ge0, e1]
    simp only [F_fors_0, decide_eq_true h1, decide_eq_true h2, g1, cond_true, Bool.and_self]
    rw [show (pre ++ [u]).length = pre.length + 1 by simp, List.append_assoc] at hf
    exact hf
theorem fors_run : ∀ a, (fun _ => true) a = true → ∃ f, M_fors f a = some (forest a) := fun a _ => by
  obtain ⟨f, hf⟩ := fors_loop a [] [] (Vf.nil _) (by simp) (by simp)
  exact ⟨f + 1, (M_fors_eq f _).trans hf⟩
noncomputable def E_fors : Ent := ⟨53, [.rd tSSt], [.v (.sl tSEn)], fun a => (fun _ => true : (List (SSt)) → Bool) a, fun a => (forest : (List (SSt)) → (List (SEn))) a⟩
theorem E_fors_ok : E_fors.Ok Try.prog := fun a hp vs hv => (fors_run a hp).elim fun f h => fnX_ok (C := C_fors) (Lt := Lt_fors) (fn := Try.f53) (rs := [.tmp 2]) [.rd tSSt] [.v (.sl tSEn)] mixed es_fors Try.func53 rfl rfl rfl (by kernel_rfl) (by kernel_rfl) f h vs hv
theorem forest_vf (a : List SSt) : Vf 40 (forest a) ∧ (forest a).length ≤ 31 := (fors_0 a a [] 0 (Vf.nil _) (by omega) (by simp)).2
end Go.AL
