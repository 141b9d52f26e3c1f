/-
  The stable sort at entries: the symmetric merge. By an AI agent.
-/
import Derived.Test.YtjlcdgjcbienbaaSt1
namespace Go.AL
open Go.Proofs
set_option linter.unusedVariables false
set_option linter.unusedSimpArgs false
def symS (a : List SEn × Int × Int × Int × Unit) : Unit × List SEn := ((), a.1.take a.2.1.toNat ++ (mrgB ltE (mid a.1 a.2.1 a.2.2.1) (mid a.1 a.2.2.1 a.2.2.2.1) ++ a.1.drop a.2.2.2.1.toNat))
noncomputable def E0_sym (p0 : (List (SEn)) × Int × Int × Int × Unit → Bool) : EntL := ⟨102, false, false, 74, 13, tSEn, [.c (.int .i64), .c (.int .i64), .c (.int .i64), .fn 64 []], [], fun l l2 a => (p0 : (List (SEn)) × Int × Int × Int × Unit → Bool) (l, a.1, a.2.1, a.2.2.1, a.2.2.2), fun l l2 a => (symS : (List (SEn)) × Int × Int × Int × Unit → Unit × (List (SEn))) (l, a.1, a.2.1, a.2.2.1, a.2.2.2)⟩
noncomputable def C_sym (p0 : (List (SEn)) × Int × Int × Int × Unit → Bool) : Cfg := ⟨Try.prog, [E_cent], pmT [(5, ([(0, []), (1, []), (2, []), (3, []), (4, []), (5, []), (6, []), (7, []), (8, []), (9, []), (10, [])], [(40, 50)])), (11, ([(0, []), (1, []), (2, []), (3, []), (4, []), (5, []), (6, []), (7, []), (8, []), (9, []), (10, []), (11, []), (12, []), (13, []), (14, []), (15, []), (16, []), (17, [])], [(61, 76)])), (17, ([(0, []), (1, []), (2, []), (3, []), (4, []), (5, []), (6, []), (7, []), (8, []), (9, []), (10, []), (11, [])], [(92, 103)])), (23, ([(0, []), (1, []), (2, []), (3, []), (4, []), (5, []), (6, []), (7, []), (8, []), (9, []), (10, []), (11, []), (12, []), (13, []), (14, []), (15, []), (16, []), (17, [])], [(113, 128)])), (35, ([(0, []), (1, []), (2, []), (3, []), (4, []), (5, []), (6, []), (7, []), (8, []), (9, []), (10, []), (11, []), (12, []), (13, [])], [(158, 171)]))], 220, [E_rot, E0_sym p0], []⟩
theorem es_sym {p0 : (List (SEn)) × Int × Int × Int × Unit → Bool} (h0 : (E0_sym p0).Ok Try.prog) : EsOk Try.prog [E_cent] [E_rot, E0_sym p0] := el_cons E_rot_ok (es_cons E_cent_ok ((el_cons h0 es_nil)))
def Lt_sym : Nat → LD := ldTL 1 [(0, ⟨[.list 0 500 74 13 tSEn, .c 1 (.int .i64), .fn 4 64 [], .c 10 (.int .i64), .c 11 (.int .i64)], [], 1⟩), (2, ⟨[.list 0 500 74 13 tSEn, .c 10 (.int .i64), .c 13 (.int .i64)], [], 1⟩), (4, ⟨[.list 0 500 74 13 tSEn, .c 2 (.int .i64), .fn 4 64 [], .c 14 (.int .i64), .c 15 (.int .i64)], [], 1⟩), (6, ⟨[.list 0 500 74 13 tSEn, .c 14 (.int .i64), .c 17 (.int .i64)], [], 1⟩), (8, ⟨[.list 0 500 74 13 tSEn, .c 1 (.int .i64), .c 2 (.int .i64), .c 3 (.int .i64), .fn 4 64 [], .c 18 (.int .i64), .c 19 (.int .i64), .c 20 (.int .i64), .c 21 (.int .i64), .c 22 (.int .i64)], [], 1⟩)]
noncomputable def M_sym (p0 : (List (SEn)) × Int × Int × Int × Unit → Bool) (f : Nat) (a : (List (SEn)) × Int × Int × Int × Unit) : Option (Unit × (List (SEn))) := (runX (C_sym p0) Lt_sym (KretI Try.prog 74 13 tSEn [] []) f [.code (bodyOf Try.f102)] (initXL false 74 13 tSEn [.c (.int .i64), .c (.int .i64), .c (.int .i64), .fn 64 []] a.1 [] (a.2.1, a.2.2.1, a.2.2.2.1, a.2.2.2.2)) : Option ((ResT [] × List (RowT tSEn))))
noncomputable def L_sym_0 (p0 : (List (SEn)) × Int × Int × Int × Unit → Bool) (f : Nat) (x : (List (SEn)) × Int × Unit × Int × Int) : Option (Unit × (List (SEn))) := (runX (C_sym p0) Lt_sym (KretI Try.prog 74 13 tSEn [] []) f (headOf Try.f102 0) ((Lt_sym 0).mk' x) : Option ((ResT [] × List (RowT tSEn))))
noncomputable def L_sym_2 (p0 : (List (SEn)) × Int × Int × Int × Unit → Bool) (f : Nat) (x : (List (SEn)) × Int × Int) : Option (Unit × (List (SEn))) := (runX (C_sym p0) Lt_sym (KretI Try.prog 74 13 tSEn [] []) f (headOf Try.f102 2) ((Lt_sym 2).mk' x) : Option ((ResT [] × List (RowT tSEn))))
noncomputable def L_sym_4 (p0 : (List (SEn)) × Int × Int × Int × Unit → Bool) (f : Nat) (x : (List (SEn)) × Int × Unit × Int × Int) : Option (Unit × (List (SEn))) := (runX (C_sym p0) Lt_sym (KretI Try.prog 74 13 tSEn [] []) f (headOf Try.f102 4) ((Lt_sym 4).mk' x) : Option ((ResT [] × List (RowT tSEn))))
noncomputable def L_sym_6 (p0 : (List (SEn)) × Int × Int × Int × Unit → Bool) (f : Nat) (x : (List (SEn)) × Int × Int) : Option (Unit × (List (SEn))) := (runX (C_sym p0) Lt_sym (KretI Try.prog 74 13 tSEn [] []) f (headOf Try.f102 6) ((Lt_sym 6).mk' x) : Option ((ResT [] × List (RowT tSEn))))
noncomputable def L_sym_8 (p0 : (List (SEn)) × Int × Int × Int × Unit → Bool) (f : Nat) (x : (List (SEn)) × Int × Int × Int × Unit × Int × Int × Int × Int × Int) : Option (Unit × (List (SEn))) := (runX (C_sym p0) Lt_sym (KretI Try.prog 74 13 tSEn [] []) f (headOf Try.f102 8) ((Lt_sym 8).mk' x) : Option ((ResT [] × List (RowT tSEn))))
theorem M_sym_eq (p0 : (List (SEn)) × Int × Int × Int × Unit → Bool) (f : Nat) (data : List (SEn)) (a : Int) (m : Int) (b : Int) (cmp : Unit) : M_sym p0 (f + 1) (data, a, m, b, cmp) =
    bif IntKind.i64.wrap (m - a) == 1 then L_sym_0 p0 f (data, a, (), m, b) else bif IntKind.i64.wrap (b - m) == 1 then L_sym_4 p0 f (data, m, (), a, m) else bif decide (m > IntKind.i64.wrap ((IntKind.u64.wrap (IntKind.i64.wrap (a + b))).fdiv (2 ^ min (Int.toNat 1) IntKind.u64.bits))) then L_sym_8 p0 f (data, a, m, b, (), IntKind.i64.wrap ((IntKind.u64.wrap (IntKind.i64.wrap (a + b))).fdiv (2 ^ min (Int.toNat 1) IntKind.u64.bits)), IntKind.i64.wrap (IntKind.i64.wrap ((IntKind.u64.wrap (IntKind.i64.wrap (a + b))).fdiv (2 ^ min (Int.toNat 1) IntKind.u64.bits)) + m), IntKind.i64.wrap (IntKind.i64.wrap (IntKind.i64.wrap ((IntKind.u64.wrap (IntKind.i64.wrap (a + b))).fdiv (2 ^ min (Int.toNat 1) IntKind.u64.bits)) + m) - b), IntKind.i64.wrap ((IntKind.u64.wrap (IntKind.i64.wrap (a + b))).fdiv (2 ^ min (Int.toNat 1) IntKind.u64.bits)), IntKind.i64.wrap (IntKind.i64.wrap (IntKind.i64.wrap ((IntKind.u64.wrap (IntKind.i64.wrap (a + b))).fdiv (2 ^ min (Int.toNat 1) IntKind.u64.bits)) + m) - 1)) else L_sym_8 p0 f (data, a, m, b, (), IntKind.i64.wrap ((IntKind.u64.wrap (IntKind.i64.wrap (a + b))).fdiv (2 ^ min (Int.toNat 1) IntKind.u64.bits)), IntKind.i64.wrap (IntKind.i64.wrap ((IntKind.u64.wrap (IntKind.i64.wrap (a + b))).fdiv (2 ^ min (Int.toNat 1) IntKind.u64.bits)) + m), a, m, IntKind.i64.wrap (IntKind.i64.wrap (IntKind.i64.wrap ((IntKind.u64.wrap (IntKind.i64.wrap (a + b))).fdiv (2 ^ min (Int.toNat 1) IntKind.u64.bits)) + m) - 1)) := by kernel_rfl
theorem L_sym_0_eq (p0 : (List (SEn)) × Int × Int × Int × Unit → Bool) (f : Nat) (data : List (SEn)) (a : Int) (cmp : Unit) (i : Int) (j : Int) : L_sym_0 p0 (f + 1) (data, a, cmp, i, j) =
    bif decide (i < j) then bif decide (0 ≤ IntKind.i64.wrap ((IntKind.u64.wrap (IntKind.i64.wrap (i + j))).fdiv (2 ^ min (Int.toNat 1) IntKind.u64.bits))) && decide (IntKind.i64.wrap ((IntKind.u64.wrap (IntKind.i64.wrap (i + j))).fdiv (2 ^ min (Int.toNat 1) IntKind.u64.bits)) < (↑data.length : Int)) then bif decide (0 ≤ a) && decide (a < (↑data.length : Int)) then bif decide (centS (data.getD (IntKind.i64.wrap ((IntKind.u64.wrap (IntKind.i64.wrap (i + j))).fdiv (2 ^ min (Int.toNat 1) IntKind.u64.bits))).toNat (0, 0, 0, 0, 0, [], 0, 0, 0, 0, 0, 0, false), data.getD a.toNat (0, 0, 0, 0, 0, [], 0, 0, 0, 0, 0, 0, false)) < 0) then L_sym_0 p0 f (data, a, (), IntKind.i64.wrap (IntKind.i64.wrap ((IntKind.u64.wrap (IntKind.i64.wrap (i + j))).fdiv (2 ^ min (Int.toNat 1) IntKind.u64.bits)) + 1), j) else L_sym_0 p0 f (data, a, (), i, IntKind.i64.wrap ((IntKind.u64.wrap (IntKind.i64.wrap (i + j))).fdiv (2 ^ min (Int.toNat 1) IntKind.u64.bits))) else none else none else L_sym_2 p0 f (data, i, a) := by kernel_rfl
theorem L_sym_2_eq (p0 : (List (SEn)) × Int × Int × Int × Unit → Bool) (f : Nat) (data : List (SEn)) (i : Int) (k : Int) : L_sym_2 p0 (f + 1) (data, i, k) =
    bif decide (k < IntKind.i64.wrap (i - 1)) then bif decide (0 ≤ IntKind.i64.wrap (k + 1)) && decide (IntKind.i64.wrap (k + 1) < (↑data.length : Int)) then bif decide (0 ≤ k) && decide (k < (↑data.length : Int)) then bif decide (0 ≤ k) && decide (k < (↑data.length : Int)) then bif decide (0 ≤ IntKind.i64.wrap (k + 1)) && decide (IntKind.i64.wrap (k + 1) < (↑(data.set k.toNat (data.getD (IntKind.i64.wrap (k + 1)).toNat (0, 0, 0, 0, 0, [], 0, 0, 0, 0, 0, 0, false))).length : Int)) then L_sym_2 p0 f ((data.set k.toNat (data.getD (IntKind.i64.wrap (k + 1)).toNat (0, 0, 0, 0, 0, [], 0, 0, 0, 0, 0, 0, false))).set (IntKind.i64.wrap (k + 1)).toNat (data.getD k.toNat (0, 0, 0, 0, 0, [], 0, 0, 0, 0, 0, 0, false)), i, IntKind.i64.wrap (k + 1)) else none else none else none else none else some ((), data) := by kernel_rfl
theorem L_sym_4_eq (p0 : (List (SEn)) × Int × Int × Int × Unit → Bool) (f : Nat) (data : List (SEn)) (m : Int) (cmp : Unit) (i : Int) (j : Int) : L_sym_4 p0 (f + 1) (data, m, cmp, i, j) =
    bif decide (i < j) then bif decide (0 ≤ m) && decide (m < (↑data.length : Int)) then bif decide (0 ≤ IntKind.i64.wrap ((IntKind.u64.wrap (IntKind.i64.wrap (i + j))).fdiv (2 ^ min (Int.toNat 1) IntKind.u64.bits))) && decide (IntKind.i64.wrap ((IntKind.u64.wrap (IntKind.i64.wrap (i + j))).fdiv (2 ^ min (Int.toNat 1) IntKind.u64.bits)) < (↑data.length : Int)) then bif !decide (centS (data.getD m.toNat (0, 0, 0, 0, 0, [], 0, 0, 0, 0, 0, 0, false), data.getD (IntKind.i64.wrap ((IntKind.u64.wrap (IntKind.i64.wrap (i + j))).fdiv (2 ^ min (Int.toNat 1) IntKind.u64.bits))).toNat (0, 0, 0, 0, 0, [], 0, 0, 0, 0, 0, 0, false)) < 0) then L_sym_4 p0 f (data, m, (), IntKind.i64.wrap (IntKind.i64.wrap ((IntKind.u64.wrap (IntKind.i64.wrap (i + j))).fdiv (2 ^ min (Int.toNat 1) IntKind.u64.bits)) + 1), j) else L_sym_4 p0 f (data, m, (), i, IntKind.i64.wrap ((IntKind.u64.wrap (IntKind.i64.wrap (i + j))).fdiv (2 ^ min (Int.toNat 1) IntKind.u64.bits))) else none else none else L_sym_6 p0 f (data, i, m) := by kernel_rfl
theorem L_sym_6_eq (p0 : (List (SEn)) × Int × Int × Int × Unit → Bool) (f : Nat) (data : List (SEn)) (i : Int) (k : Int) : L_sym_6 p0 (f + 1) (data, i, k) =
    bif decide (k > i) then bif decide (0 ≤ IntKind.i64.wrap (k - 1)) && decide (IntKind.i64.wrap (k - 1) < (↑data.length : Int)) then bif decide (0 ≤ k) && decide (k < (↑data.length : Int)) then bif decide (0 ≤ k) && decide (k < (↑data.length : Int)) then bif decide (0 ≤ IntKind.i64.wrap (k - 1)) && decide (IntKind.i64.wrap (k - 1) < (↑(data.set k.toNat (data.getD (IntKind.i64.wrap (k - 1)).toNat (0, 0, 0, 0, 0, [], 0, 0, 0, 0, 0, 0, false))).length : Int)) then L_sym_6 p0 f ((data.set k.toNat (data.getD (IntKind.i64.wrap (k - 1)).toNat (0, 0, 0, 0, 0, [], 0, 0, 0, 0, 0, 0, false))).set (IntKind.i64.wrap (k - 1)).toNat (data.getD k.toNat (0, 0, 0, 0, 0, [], 0, 0, 0, 0, 0, 0, false)), i, IntKind.i64.wrap (k - 1)) else none else none else none else none else some ((), data) := by kernel_rfl
theorem L_sym_8_eq (p0 : (List (SEn)) × Int × Int × Int × Unit → Bool) (f : Nat) (data : List (SEn)) (a : Int) (m : Int) (b : Int) (cmp : Unit) (mid : Int) (n : Int) (start : Int) (r : Int) (p : Int) : L_sym_8 p0 (f + 1) (data, a, m, b, cmp, mid, n, start, r, p) =
    bif decide (start < r) then bif decide (0 ≤ IntKind.i64.wrap (p - IntKind.i64.wrap ((IntKind.u64.wrap (IntKind.i64.wrap (start + r))).fdiv (2 ^ min (Int.toNat 1) IntKind.u64.bits)))) && decide (IntKind.i64.wrap (p - IntKind.i64.wrap ((IntKind.u64.wrap (IntKind.i64.wrap (start + r))).fdiv (2 ^ min (Int.toNat 1) IntKind.u64.bits))) < (↑data.length : Int)) then bif decide (0 ≤ IntKind.i64.wrap ((IntKind.u64.wrap (IntKind.i64.wrap (start + r))).fdiv (2 ^ min (Int.toNat 1) IntKind.u64.bits))) && decide (IntKind.i64.wrap ((IntKind.u64.wrap (IntKind.i64.wrap (start + r))).fdiv (2 ^ min (Int.toNat 1) IntKind.u64.bits)) < (↑data.length : Int)) then bif !decide (centS (data.getD (IntKind.i64.wrap (p - IntKind.i64.wrap ((IntKind.u64.wrap (IntKind.i64.wrap (start + r))).fdiv (2 ^ min (Int.toNat 1) IntKind.u64.bits)))).toNat (0, 0, 0, 0, 0, [], 0, 0, 0, 0, 0, 0, false), data.getD (IntKind.i64.wrap ((IntKind.u64.wrap (IntKind.i64.wrap (start + r))).fdiv (2 ^ min (Int.toNat 1) IntKind.u64.bits))).toNat (0, 0, 0, 0, 0, [], 0, 0, 0, 0, 0, 0, false)) < 0) then L_sym_8 p0 f (data, a, m, b, (), mid, n, IntKind.i64.wrap (IntKind.i64.wrap ((IntKind.u64.wrap (IntKind.i64.wrap (start + r))).fdiv (2 ^ min (Int.toNat 1) IntKind.u64.bits)) + 1), r, p) else L_sym_8 p0 f (data, a, m, b, (), mid, n, start, IntKind.i64.wrap ((IntKind.u64.wrap (IntKind.i64.wrap (start + r))).fdiv (2 ^ min (Int.toNat 1) IntKind.u64.bits)), p) else none else none else bif decide (start < m) then bif decide (m < IntKind.i64.wrap (n - start)) then bif seg3 data start m (IntKind.i64.wrap (n - start)) then bif decide (a < start) then bif decide (start < mid) then bif (E0_sym p0).pre (rotS (data, start, m, IntKind.i64.wrap (n - start), ())).2 [] (a, start, mid, ()) then bif decide (mid < IntKind.i64.wrap (n - start)) then bif decide (IntKind.i64.wrap (n - start) < b) then bif (E0_sym p0).pre ((E0_sym p0).fn (rotS (data, start, m, IntKind.i64.wrap (n - start), ())).2 [] (a, start, mid, ())).2 [] (mid, IntKind.i64.wrap (n - start), b, ()) then some ((), ((E0_sym p0).fn ((E0_sym p0).fn (rotS (data, start, m, IntKind.i64.wrap (n - start), ())).2 [] (a, start, mid, ())).2 [] (mid, IntKind.i64.wrap (n - start), b, ())).2) else none else some ((), ((E0_sym p0).fn (rotS (data, start, m, IntKind.i64.wrap (n - start), ())).2 [] (a, start, mid, ())).2) else some ((), ((E0_sym p0).fn (rotS (data, start, m, IntKind.i64.wrap (n - start), ())).2 [] (a, start, mid, ())).2) else none else bif decide (mid < IntKind.i64.wrap (n - start)) then bif decide (IntKind.i64.wrap (n - start) < b) then bif (E0_sym p0).pre (rotS (data, start, m, IntKind.i64.wrap (n - start), ())).2 [] (mid, IntKind.i64.wrap (n - start), b, ()) then some ((), ((E0_sym p0).fn (rotS (data, start, m, IntKind.i64.wrap (n - start), ())).2 [] (mid, IntKind.i64.wrap (n - start), b, ())).2) else none else some ((), (rotS (data, start, m, IntKind.i64.wrap (n - start), ())).2) else some ((), (rotS (data, start, m, IntKind.i64.wrap (n - start), ())).2) else bif decide (mid < IntKind.i64.wrap (n - start)) then bif decide (IntKind.i64.wrap (n - start) < b) then bif (E0_sym p0).pre (rotS (data, start, m, IntKind.i64.wrap (n - start), ())).2 [] (mid, IntKind.i64.wrap (n - start), b, ()) then some ((), ((E0_sym p0).fn (rotS (data, start, m, IntKind.i64.wrap (n - start), ())).2 [] (mid, IntKind.i64.wrap (n - start), b, ())).2) else none else some ((), (rotS (data, start, m, IntKind.i64.wrap (n - start), ())).2) else some ((), (rotS (data, start, m, IntKind.i64.wrap (n - start), ())).2) else none else bif decide (a < start) then bif decide (start < mid) then bif (E0_sym p0).pre data [] (a, start, mid, ()) then bif decide (mid < IntKind.i64.wrap (n - start)) then bif decide (IntKind.i64.wrap (n - start) < b) then bif (E0_sym p0).pre ((E0_sym p0).fn data [] (a, start, mid, ())).2 [] (mid, IntKind.i64.wrap (n - start), b, ()) then some ((), ((E0_sym p0).fn ((E0_sym p0).fn data [] (a, start, mid, ())).2 [] (mid, IntKind.i64.wrap (n - start), b, ())).2) else none else some ((), ((E0_sym p0).fn data [] (a, start, mid, ())).2) else some ((), ((E0_sym p0).fn data [] (a, start, mid, ())).2) else none else bif decide (mid < IntKind.i64.wrap (n - start)) then bif decide (IntKind.i64.wrap (n - start) < b) then bif (E0_sym p0).pre data [] (mid, IntKind.i64.wrap (n - start), b, ()) then some ((), ((E0_sym p0).fn data [] (mid, IntKind.i64.wrap (n - start), b, ())).2) else none else some ((), data) else some ((), data) else bif decide (mid < IntKind.i64.wrap (n - start)) then bif decide (IntKind.i64.wrap (n - start) < b) then bif (E0_sym p0).pre data [] (mid, IntKind.i64.wrap (n - start), b, ()) then some ((), ((E0_sym p0).fn data [] (mid, IntKind.i64.wrap (n - start), b, ())).2) else none else some ((), data) else some ((), data) else bif decide (a < start) then bif decide (start < mid) then bif (E0_sym p0).pre data [] (a, start, mid, ()) then bif decide (mid < IntKind.i64.wrap (n - start)) then bif decide (IntKind.i64.wrap (n - start) < b) then bif (E0_sym p0).pre ((E0_sym p0).fn data [] (a, start, mid, ())).2 [] (mid, IntKind.i64.wrap (n - start), b, ()) then some ((), ((E0_sym p0).fn ((E0_sym p0).fn data [] (a, start, mid, ())).2 [] (mid, IntKind.i64.wrap (n - start), b, ())).2) else none else some ((), ((E0_sym p0).fn data [] (a, start, mid, ())).2) else some ((), ((E0_sym p0).fn data [] (a, start, mid, ())).2) else none else bif decide (mid < IntKind.i64.wrap (n - start)) then bif decide (IntKind.i64.wrap (n - start) < b) then bif (E0_sym p0).pre data [] (mid, IntKind.i64.wrap (n - start), b, ()) then some ((), ((E0_sym p0).fn data [] (mid, IntKind.i64.wrap (n - start), b, ())).2) else none else some ((), data) else some ((), data) else bif decide (mid < IntKind.i64.wrap (n - start)) then bif decide (IntKind.i64.wrap (n - start) < b) then bif (E0_sym p0).pre data [] (mid, IntKind.i64.wrap (n - start), b, ()) then some ((), ((E0_sym p0).fn data [] (mid, IntKind.i64.wrap (n - start), b, ())).2) else none else some ((), data) else some ((), data) := by kernel_rfl
theorem hlf {i j : Int} (h0 : 0 ≤ i + j) (h1 : i + j ≤ 4398046511104) : IntKind.i64.wrap ((IntKind.u64.wrap (IntKind.i64.wrap (i + j))).fdiv (2 ^ min (Int.toNat 1) IntKind.u64.bits)) = (i + j) / 2 := by
  have e : (2 : Int) ^ min (Int.toNat 1) IntKind.u64.bits = 2 := by decide
  rw [e, i64_id (n := i + j) (by omega) (by omega), u64_id h0 (by omega), Int.fdiv_eq_ediv_of_nonneg _ (by omega), i64_id (by omega) (by omega)]
section
variable (p0 : List SEn × Int × Int × Int × Unit → Bool)
theorem sym_2 : ∀ (v x y : List SEn) (p : SEn) (i k : Int), k = (x.length : Nat) → i = ((x.length + v.length + 1 : Nat) : Int) → (x ++ (p :: (v ++ y))).length ≤ 1099511627776 → ∃ f, L_sym_2 p0 f (x ++ (p :: (v ++ y)), i, k) = some ((), x ++ (v ++ (p :: y)))
  | [], x, y, p, i, k, hk, hi, hl => by
    refine ⟨1, (L_sym_2_eq p0 0 _ _ _).trans ?_⟩
    simp only [List.length_append, List.length_cons, List.length_nil] at hl hi
    rw [i64_id (by omega) (by omega), decide_eq_false (by omega)]
    rfl
  | c :: v, x, y, p, i, k, hk, hi, hl => by
    simp only [List.length_append, List.length_cons] at hl hi
    obtain ⟨f, hf⟩ := sym_2 v (x ++ [c]) y p i (k + 1) (by simp only [List.length_append, List.length_singleton, List.length_nil]; omega) (by simp only [List.length_append, List.length_singleton, List.length_nil]; omega) (by simp only [List.length_append, List.length_cons, List.length_singleton, List.length_nil]; omega)
    refine ⟨f + 1, (L_sym_2_eq p0 f _ _ _).trans ?_⟩
    have w1 : IntKind.i64.wrap (i - 1) = i - 1 := i64_id (by omega) (by omega)
    have w2 : IntKind.i64.wrap (k + 1) = k + 1 := i64_id (by omega) (by omega)
    have n1 : (k + 1).toNat = x.length + 1 + ([] : List SEn).length := by simp only [List.length_nil]; omega
    have n2 : k.toNat = x.length := by omega
    have eD : x ++ (p :: (c :: v ++ y)) = x ++ p :: ([] ++ c :: (v ++ y)) := rfl
    have g1 := getD_one (x := x) (q := []) (r := p) (y := [] ++ c :: (v ++ y)) (p := p) (z := zE) rfl
    have g2 := getD_two (x := x) (q := []) (y := v ++ y) (p := p) (r := c) (z := zE) rfl
    simp only [zE] at g1 g2
    have s2 := set_two (x := x) (q := []) (y := v ++ y) (p := p) (r := c) rfl rfl
    have hL : ((x ++ p :: ([] ++ c :: (v ++ y))).length : Nat) = x.length + 2 + v.length + y.length := by simp; omega
    rw [w1, w2, eD]
    simp only [n1, n2, g1, g2, s2, List.length_set, hL, decide_eq_true (show k < i - 1 by omega), decide_eq_true (show 0 ≤ k by omega), decide_eq_true (show 0 ≤ k + 1 by omega), decide_eq_true (show k < ((x.length + 2 + v.length + y.length : Nat) : Int) by omega), decide_eq_true (show k + 1 < ((x.length + 2 + v.length + y.length : Nat) : Int) by omega), Bool.and_self, cond_true]
    simpa using hf
theorem sym_6 : ∀ (n : Nat) (u x y : List SEn) (q : SEn) (i k : Int), u.length = n → i = (x.length : Nat) → k = ((x.length + u.length : Nat) : Int) → (x ++ (u ++ (q :: y))).length ≤ 1099511627776 → ∃ f, L_sym_6 p0 f (x ++ (u ++ (q :: y)), i, k) = some ((), x ++ (q :: (u ++ y)))
  | 0, u, x, y, q, i, k, hn, hi, hk, hl => by
    obtain rfl := List.eq_nil_of_length_eq_zero hn
    refine ⟨1, (L_sym_6_eq p0 0 _ _ _).trans ?_⟩
    rw [decide_eq_false (by simp at hk; omega)]
    rfl
  | n + 1, u, x, y, q, i, k, hn, hi, hk, hl => by
    obtain ⟨u, c, rfl⟩ : ∃ u' c, u = u' ++ [c] := ⟨u.dropLast, u.getLast (by intro h; rw [h] at hn; cases hn), (List.dropLast_concat_getLast _).symm⟩
    have hun : u.length = n := by rw [List.length_append, List.length_singleton] at hn; exact Nat.succ.inj hn
    simp only [List.length_append, List.length_singleton, List.length_nil, List.length_cons] at hl hk
    obtain ⟨f, hf⟩ := sym_6 n u x (c :: y) q i (k - 1) hun hi (by omega) (by simp only [List.length_append, List.length_cons]; omega)
    refine ⟨f + 1, (L_sym_6_eq p0 f _ _ _).trans ?_⟩
    have w2 : IntKind.i64.wrap (k - 1) = k - 1 := i64_id (by omega) (by omega)
    have n1 : k.toNat = (x ++ u).length + 1 + ([] : List SEn).length := by simp only [List.length_nil, List.length_append]; omega
    have n2 : (k - 1).toNat = (x ++ u).length := by simp only [List.length_append]; omega
    have eD : x ++ (u ++ [c] ++ (q :: y)) = (x ++ u) ++ c :: ([] ++ q :: y) := by simp
    have g1 := getD_one (x := x ++ u) (q := []) (r := c) (y := [] ++ q :: y) (p := c) (z := zE) rfl
    have g2 := getD_two (x := x ++ u) (q := []) (y := y) (p := c) (r := q) (z := zE) rfl
    simp only [zE] at g1 g2
    have s2 := set_two' (x := x ++ u) (q := []) (y := y) (p := c) (r := q) rfl rfl
    have hL : (((x ++ u) ++ c :: ([] ++ q :: y)).length : Nat) = x.length + u.length + 2 + y.length := by simp; omega
    rw [w2, eD]
    simp only [n1, n2, g1, g2, s2, List.length_set, hL, decide_eq_true (show k > i by omega), decide_eq_true (show 0 ≤ k by omega), decide_eq_true (show 0 ≤ k - 1 by omega), decide_eq_true (show k < ((x.length + u.length + 2 + y.length : Nat) : Int) by omega), decide_eq_true (show k - 1 < ((x.length + u.length + 2 + y.length : Nat) : Int) by omega), Bool.and_self, cond_true]
    simpa using hf
theorem getD_mid3 {x u y : List SEn} {c z : SEn} {j : Nat} (hj : j = x.length + u.length) : (x ++ (u ++ (c :: y))).getD j z = c := by
  subst hj
  rw [List.getD_eq_getElem?_getD, List.getElem?_append_right (by omega), show x.length + u.length - x.length = u.length by omega, List.getElem?_append_right (Nat.le_refl _), Nat.sub_self]
  rfl
theorem cut_at {α : Type} {w : List α} {n : Nat} (h : n < w.length) : ∃ w1 c w2, w = w1 ++ c :: w2 ∧ w1.length = n := ⟨w.take n, w[n], w.drop (n + 1), by rw [← List.drop_eq_getElem_cons h, List.take_append_drop], by rw [List.length_take]; omega⟩
theorem sym_0 : ∀ (n : Nat) (w x v1 v2 y : List SEn) (p : SEn) (a i j : Int), w.length = n → a = (x.length : Nat) → i = ((x.length + 1 + v1.length : Nat) : Int) → j = ((x.length + 1 + v1.length + w.length : Nat) : Int) → SrtB ltE (v1 ++ (w ++ v2)) → (∀ q ∈ v1, ltE q p = true) → (∀ q ∈ v2, ltE q p = false) → (x ++ (p :: ((v1 ++ (w ++ v2)) ++ y))).length ≤ 1099511627776 →
    ∃ f, L_sym_0 p0 f (x ++ (p :: ((v1 ++ (w ++ v2)) ++ y)), a, (), i, j) = some ((), x ++ (mrgB ltE [p] (v1 ++ (w ++ v2)) ++ y)) := by
  intro n
  induction n using Nat.strongRecOn with
  | _ n ih =>
  intro w x v1 v2 y p a i j hn ha hi hj hs h1 h2 hl
  have hl' := hl
  simp only [List.length_append, List.length_cons] at hl'
  by_cases hw : w.length = 0
  · obtain rfl := List.eq_nil_of_length_eq_zero hw
    obtain ⟨f, hf⟩ := sym_2 p0 v1 x (v2 ++ y) p i a ha (by simp at hj; omega) (by simpa using hl)
    refine ⟨f + 1, (L_sym_0_eq p0 f _ _ _ _ _).trans ?_⟩
    rw [decide_eq_false (by simp at hj; omega), cond_false]
    have e1 : mrgB ltE [p] (v1 ++ ([] ++ v2)) = v1 ++ (p :: v2) := by
      have := mrgB_split (lt := ltE) [] v1 [p] v2 (fun z hz q hq => by rw [List.mem_singleton.1 hz]; exact h1 q hq) (fun z hz => by cases hz)
      have t := mrgB_split (lt := ltE) [p] [] [] v2 (fun z hz => by cases hz) (fun z hz q hq => by rw [List.mem_singleton.1 hz]; exact h2 q hq)
      simp only [List.nil_append, List.append_nil, mrgB_nil', mrgB_nil] at this t ⊢
      rw [this, t]; simp
    rw [e1]
    simpa using hf
  · have hh : (i + j) / 2 = ((x.length + (p :: (v1 ++ w.take (w.length / 2))).length : Nat) : Int) := by simp only [List.length_cons, List.length_append, List.length_take]; omega
    obtain ⟨w1, c, w2, rfl, hw1⟩ := cut_at (w := w) (n := w.length / 2) (by omega)
    have ew : (w1 ++ c :: w2).take ((w1 ++ c :: w2).length / 2) = w1 := by rw [← hw1, List.take_left]
    rw [ew] at hh
    simp only [List.length_append, List.length_cons] at hw1 hj hl' hn hh
    have w0 := hlf (i := i) (j := j) (by omega) (by omega)
    have eD : x ++ (p :: ((v1 ++ (w1 ++ c :: w2 ++ v2)) ++ y)) = x ++ ((p :: (v1 ++ w1)) ++ (c :: (w2 ++ (v2 ++ y)))) := by simp
    have g1 : (x ++ ((p :: (v1 ++ w1)) ++ (c :: (w2 ++ (v2 ++ y))))).getD ((i + j) / 2).toNat zE = c := getD_mid3 (by simp only [List.length_cons, List.length_append]; omega)
    have g2 : (x ++ ((p :: (v1 ++ w1)) ++ (c :: (w2 ++ (v2 ++ y))))).getD a.toNat zE = p := getD_one (q := []) (r := p) (by omega)
    simp only [zE] at g1 g2
    have hL : ((x ++ ((p :: (v1 ++ w1)) ++ (c :: (w2 ++ (v2 ++ y))))).length : Nat) = x.length + (v1.length + w1.length + 1) + (w2.length + (v2.length + y.length) + 1) := by simp only [List.length_append, List.length_cons]; omega
    have hsp := List.pairwise_append.1 hs
    have hsw := List.pairwise_append.1 hsp.2.1
    have hsc := List.pairwise_append.1 hsw.1
    have hcl := List.pairwise_cons.1 hsc.2.1
    cases hc : ltE c p
    · obtain ⟨f, hf⟩ := ih w1.length (by omega) w1 x v1 (c :: (w2 ++ v2)) y p a i ((i + j) / 2) rfl ha hi (by omega) (by simpa using hs) h1 (fun q hq => by
        rcases List.mem_cons.1 hq with rfl | hq
        · exact hc
        · rcases List.mem_append.1 hq with hq | hq
          · exact ordE.ntrans p c q hc (hcl.1 q hq)
          · exact h2 q hq) (by simpa using hl)
      refine ⟨f + 1, (L_sym_0_eq p0 f _ _ _ _ _).trans ?_⟩
      have hc' : decide (centS (c, p) < 0) = false := hc
      rw [w0, eD]
      simp only [g1, g2, hc', hL, decide_eq_true (show i < j by omega), decide_eq_true (show 0 ≤ (i + j) / 2 by omega), decide_eq_true (show 0 ≤ a by omega), decide_eq_true (show (i + j) / 2 < ((x.length + (v1.length + w1.length + 1) + (w2.length + (v2.length + y.length) + 1) : Nat) : Int) by omega), decide_eq_true (show a < ((x.length + (v1.length + w1.length + 1) + (w2.length + (v2.length + y.length) + 1) : Nat) : Int) by omega), Bool.and_self, cond_true, cond_false]
      simpa using hf
    · have w3 : IntKind.i64.wrap ((i + j) / 2 + 1) = (i + j) / 2 + 1 := i64_id (by omega) (by omega)
      obtain ⟨f, hf⟩ := ih w2.length (by omega) w2 x (v1 ++ (w1 ++ [c])) v2 y p a ((i + j) / 2 + 1) j rfl ha (by simp only [List.length_append, List.length_singleton, List.length_nil]; omega) (by simp only [List.length_append, List.length_singleton, List.length_nil]; omega) (by simpa using hs) (fun q hq => by
        rcases List.mem_append.1 hq with hq | hq
        · exact h1 q hq
        · rcases List.mem_append.1 hq with hq | hq
          · exact ordE.le_lt (hsc.2.2 q hq c (List.mem_cons_self ..)) hc
          · rw [List.mem_singleton.1 hq]; exact hc) h2 (by simpa using hl)
      refine ⟨f + 1, (L_sym_0_eq p0 f _ _ _ _ _).trans ?_⟩
      have hc' : decide (centS (c, p) < 0) = true := hc
      rw [w0, eD]
      simp only [g1, g2, hc', hL, w3, decide_eq_true (show i < j by omega), decide_eq_true (show 0 ≤ (i + j) / 2 by omega), decide_eq_true (show 0 ≤ a by omega), decide_eq_true (show (i + j) / 2 < ((x.length + (v1.length + w1.length + 1) + (w2.length + (v2.length + y.length) + 1) : Nat) : Int) by omega), decide_eq_true (show a < ((x.length + (v1.length + w1.length + 1) + (w2.length + (v2.length + y.length) + 1) : Nat) : Int) by omega), Bool.and_self, cond_true, cond_false]
      simpa using hf
theorem sym_4 : ∀ (n : Nat) (w x u1 u2 y : List SEn) (q : SEn) (m i j : Int), w.length = n → m = ((x.length + (u1 ++ (w ++ u2)).length : Nat) : Int) → i = ((x.length + u1.length : Nat) : Int) → j = ((x.length + u1.length + w.length : Nat) : Int) → SrtB ltE (u1 ++ (w ++ u2)) → (∀ z ∈ u1, ltE q z = false) → (∀ z ∈ u2, ltE q z = true) → (x ++ ((u1 ++ (w ++ u2)) ++ (q :: y))).length ≤ 1099511627776 →
    ∃ f, L_sym_4 p0 f (x ++ ((u1 ++ (w ++ u2)) ++ (q :: y)), m, (), i, j) = some ((), x ++ (mrgB ltE (u1 ++ (w ++ u2)) [q] ++ y)) := by
  intro n
  induction n using Nat.strongRecOn with
  | _ n ih =>
  intro w x u1 u2 y q m i j hn hm hi hj hs h1 h2 hl
  have hl' := hl
  simp only [List.length_append, List.length_cons] at hl' hm
  by_cases hw : w.length = 0
  · obtain rfl := List.eq_nil_of_length_eq_zero hw
    obtain ⟨f, hf⟩ := sym_6 p0 u2.length u2 (x ++ u1) y q i m rfl (by simp only [List.length_append]; omega) (by simp only [List.length_append, List.length_nil] at *; omega) (by simpa using hl)
    refine ⟨f + 1, (L_sym_4_eq p0 f _ _ _ _ _).trans ?_⟩
    rw [decide_eq_false (by simp at hj; omega), cond_false]
    have e1 : mrgB ltE (u1 ++ ([] ++ u2)) [q] = u1 ++ (q :: u2) := by
      have := mrgB_split (lt := ltE) u1 [] u2 [q] (fun z hz p hp => by cases hp) (fun z hz p hp => by rw [List.mem_singleton.1 hp]; exact h1 z hz)
      have t := mrgB_split (lt := ltE) [] [q] u2 [] (fun z hz p hp => by rw [List.mem_singleton.1 hp]; exact h2 z hz) (fun z hz => by cases hz)
      simp only [List.nil_append, List.append_nil, mrgB_nil', mrgB_nil] at this t ⊢
      rw [this, t]; simp
    rw [e1]
    simpa using hf
  · obtain ⟨w1, c, w2, rfl, hw1⟩ := cut_at (w := w) (n := w.length / 2) (by omega)
    simp only [List.length_append, List.length_cons] at hw1 hj hl' hn hm
    have hh : (i + j) / 2 = ((x.length + (u1 ++ w1).length : Nat) : Int) := by simp only [List.length_append]; omega
    simp only [List.length_append] at hh
    have w0 := hlf (i := i) (j := j) (by omega) (by omega)
    have eD : x ++ ((u1 ++ (w1 ++ c :: w2 ++ u2)) ++ (q :: y)) = x ++ ((u1 ++ w1) ++ (c :: (w2 ++ (u2 ++ (q :: y))))) := by simp
    have g1 : (x ++ ((u1 ++ w1) ++ (c :: (w2 ++ (u2 ++ (q :: y)))))).getD ((i + j) / 2).toNat zE = c := getD_mid3 (by simp only [List.length_append]; omega)
    have g2 : (x ++ ((u1 ++ w1) ++ (c :: (w2 ++ (u2 ++ (q :: y)))))).getD m.toNat zE = q := by
      have := getD_mid3 (x := x) (u := u1 ++ (w1 ++ c :: (w2 ++ u2))) (c := q) (y := y) (z := zE) (j := m.toNat) (by simp only [List.length_append, List.length_cons]; omega)
      simpa using this
    simp only [zE] at g1 g2
    have hL : ((x ++ ((u1 ++ w1) ++ (c :: (w2 ++ (u2 ++ (q :: y)))))).length : Nat) = x.length + (u1.length + w1.length) + (w2.length + (u2.length + (y.length + 1)) + 1) := by simp only [List.length_append, List.length_cons]; omega
    have hsp := List.pairwise_append.1 hs
    have hsw := List.pairwise_append.1 hsp.2.1
    have hsc := List.pairwise_append.1 hsw.1
    have hcl := List.pairwise_cons.1 hsc.2.1
    cases hc : ltE q c
    · have w3 : IntKind.i64.wrap ((i + j) / 2 + 1) = (i + j) / 2 + 1 := i64_id (by omega) (by omega)
      obtain ⟨f, hf⟩ := ih w2.length (by omega) w2 x (u1 ++ (w1 ++ [c])) u2 y q m ((i + j) / 2 + 1) j rfl (by simp only [List.length_append, List.length_singleton, List.length_nil]; omega) (by simp only [List.length_append, List.length_singleton, List.length_nil]; omega) (by simp only [List.length_append, List.length_singleton, List.length_nil]; omega) (by simpa using hs) (fun z hz => by
        rcases List.mem_append.1 hz with hz | hz
        · exact h1 z hz
        · rcases List.mem_append.1 hz with hz | hz
          · exact ordE.ntrans z c q (hsc.2.2 z hz c (List.mem_cons_self ..)) hc
          · rw [List.mem_singleton.1 hz]; exact hc) h2 (by simpa using hl)
      refine ⟨f + 1, (L_sym_4_eq p0 f _ _ _ _ _).trans ?_⟩
      have hc' : decide (centS (q, c) < 0) = false := hc
      rw [w0, eD]
      simp only [g1, g2, hc', hL, w3, decide_eq_true (show i < j by omega), decide_eq_true (show 0 ≤ (i + j) / 2 by omega), decide_eq_true (show 0 ≤ m by omega), decide_eq_true (show (i + j) / 2 < ((x.length + (u1.length + w1.length) + (w2.length + (u2.length + (y.length + 1)) + 1) : Nat) : Int) by omega), decide_eq_true (show m < ((x.length + (u1.length + w1.length) + (w2.length + (u2.length + (y.length + 1)) + 1) : Nat) : Int) by omega), Bool.and_self, Bool.not_false, cond_true, cond_false]
      simpa using hf
    · obtain ⟨f, hf⟩ := ih w1.length (by omega) w1 x u1 (c :: (w2 ++ u2)) y q m i ((i + j) / 2) rfl (by simp only [List.length_append, List.length_cons]; omega) hi (by omega) (by simpa using hs) h1 (fun z hz => by
        rcases List.mem_cons.1 hz with rfl | hz
        · exact hc
        · rcases List.mem_append.1 hz with hz | hz
          · exact ordE.lt_le hc (hcl.1 z hz)
          · exact h2 z hz) (by simpa using hl)
      refine ⟨f + 1, (L_sym_4_eq p0 f _ _ _ _ _).trans ?_⟩
      have hc' : decide (centS (q, c) < 0) = true := hc
      rw [w0, eD]
      simp only [g1, g2, hc', hL, decide_eq_true (show i < j by omega), decide_eq_true (show 0 ≤ (i + j) / 2 by omega), decide_eq_true (show 0 ≤ m by omega), decide_eq_true (show (i + j) / 2 < ((x.length + (u1.length + w1.length) + (w2.length + (u2.length + (y.length + 1)) + 1) : Nat) : Int) by omega), decide_eq_true (show m < ((x.length + (u1.length + w1.length) + (w2.length + (u2.length + (y.length + 1)) + 1) : Nat) : Int) by omega), Bool.and_self, Bool.not_true, cond_true, cond_false]
      simpa using hf
def K2S (D : List SEn) (md e b : Int) : Option (Unit × List SEn) := bif decide (md < e) then (bif decide (e < b) then (bif p0 (D, md, e, b, ()) then some ((), (symS (D, md, e, b, ())).2) else none) else some ((), D)) else some ((), D)
def K1S (D : List SEn) (a s md e b : Int) : Option (Unit × List SEn) := bif decide (a < s) then (bif decide (s < md) then (bif p0 (D, a, s, md, ()) then K2S p0 (symS (D, a, s, md, ())).2 md e b else none) else K2S p0 D md e b) else K2S p0 D md e b
theorem sym_8x (f : Nat) (data : List SEn) (a m b : Int) (u : Unit) (md n start r p : Int) (h : ¬ start < r) : L_sym_8 p0 (f + 1) (data, a, m, b, u, md, n, start, r, p) = bif decide (start < m) then (bif decide (m < IntKind.i64.wrap (n - start)) then (bif seg3 data start m (IntKind.i64.wrap (n - start)) then K1S p0 (rotS (data, start, m, IntKind.i64.wrap (n - start), ())).2 a start md (IntKind.i64.wrap (n - start)) b else none) else K1S p0 data a start md (IntKind.i64.wrap (n - start)) b) else K1S p0 data a start md (IntKind.i64.wrap (n - start)) b :=
  (L_sym_8_eq p0 f data a m b u md n start r p).trans (by rw [decide_eq_false h]; rfl)
end
def srtdB (lt : SEn → SEn → Bool) : List SEn → Bool
  | [] => true
  | a :: r => r.all (fun b => !lt b a) && srtdB lt r
theorem srtdB_iff {lt : SEn → SEn → Bool} : ∀ {l : List SEn}, srtdB lt l = true ↔ SrtB lt l
  | [] => by simp [srtdB, SrtB]
  | a :: r => by
    have i := srtdB_iff (lt := lt) (l := r)
    unfold SrtB at *
    simp only [srtdB, Bool.and_eq_true, List.pairwise_cons, i, List.all_eq_true, Bool.not_eq_true']
def symP (a : List SEn × Int × Int × Int × Unit) : Bool := seg3 a.1 a.2.1 a.2.2.1 a.2.2.2.1 && (srtdB ltE (mid a.1 a.2.1 a.2.2.1) && srtdB ltE (mid a.1 a.2.2.1 a.2.2.2.1))
theorem symS_dec {x u v y : List SEn} {a m b : Int} {c : Unit} (ha : a = (x.length : Nat)) (hm : m = ((x.length + u.length : Nat) : Int)) (hb : b = ((x.length + u.length + v.length : Nat) : Int)) : symS (x ++ (u ++ (v ++ y)), a, m, b, c) = ((), x ++ (mrgB ltE u v ++ y)) := by
  obtain ⟨c1, c2, c3, c4⟩ := cut4 (y := y) ha hm hb
  simp only [symS, c1, c2, c3, c4]
theorem symP_dec {x u v y : List SEn} {a m b : Int} {c : Unit} (ha : a = (x.length : Nat)) (hm : m = ((x.length + u.length : Nat) : Int)) (hb : b = ((x.length + u.length + v.length : Nat) : Int)) (hu : SrtB ltE u) (hv : SrtB ltE v) (h1 : 0 < u.length) (h2 : 0 < v.length) (hl : (x ++ (u ++ (v ++ y))).length ≤ 1099511627776) : symP (x ++ (u ++ (v ++ y)), a, m, b, c) = true := by
  obtain ⟨c1, c2, c3, c4⟩ := cut4 (y := y) ha hm hb
  simp only [symP, c2, c3, Bool.and_eq_true]
  exact ⟨seg3_iff.2 ⟨by omega, by omega, by omega, by simp only [List.length_append]; omega, hl⟩, srtdB_iff.2 hu, srtdB_iff.2 hv⟩
section
variable {p0 : List SEn × Int × Int × Int × Unit → Bool}
theorem K2S_eq {z u v y : List SEn} {md e b : Int} (hp : ∀ (x u v y : List SEn) (a m b' : Int), a = (x.length : Nat) → m = ((x.length + u.length : Nat) : Int) → b' = ((x.length + u.length + v.length : Nat) : Int) → SrtB ltE u → SrtB ltE v → 0 < u.length → 0 < v.length → (x ++ (u ++ (v ++ y))).length ≤ 1099511627776 → a = md → b' = b → p0 (x ++ (u ++ (v ++ y)), a, m, b', ()) = true)
    (hm : md = (z.length : Nat)) (he : e = ((z.length + u.length : Nat) : Int)) (hb : b = ((z.length + u.length + v.length : Nat) : Int)) (hu : SrtB ltE u) (hv : SrtB ltE v) (hl : (z ++ (u ++ (v ++ y))).length ≤ 1099511627776) : K2S p0 (z ++ (u ++ (v ++ y))) md e b = some ((), z ++ (mrgB ltE u v ++ y)) := by
  unfold K2S
  by_cases h1 : md < e
  · by_cases h2 : e < b
    · rw [decide_eq_true h1, decide_eq_true h2, hp z u v y md e b hm he hb hu hv (by omega) (by omega) hl rfl rfl, symS_dec hm he hb]; rfl
    · have : v = [] := List.eq_nil_of_length_eq_zero (by omega)
      subst this
      rw [decide_eq_true h1, decide_eq_false h2, mrgB_nil]; rfl
  · have : u = [] := List.eq_nil_of_length_eq_zero (by omega)
    subst this
    rw [decide_eq_false h1, mrgB_nil']; rfl
theorem sym_fin {x u1 u2 v1 v2 y : List SEn} {a m b md n s r p : Int} (f : Nat) (hu : SrtB ltE (u1 ++ u2)) (hv : SrtB ltE (v1 ++ v2)) (ha : a = (x.length : Nat)) (hs : s = ((x.length + u1.length : Nat) : Int)) (hm : m = ((x.length + u1.length + u2.length : Nat) : Int)) (hmd : md = s + (v1.length : Nat)) (hb : b = m + ((v1.length + v2.length : Nat) : Int)) (hn : n = md + m)
    (hl : (x ++ ((u1 ++ u2) ++ ((v1 ++ v2) ++ y))).length ≤ 1099511627776) (h1 : ∀ p ∈ u2, ∀ q ∈ v1, ltE q p = true) (h2 : ∀ p ∈ u1, ∀ q ∈ v2, ltE q p = false) (hr : ¬ s < r)
    (hp : ∀ (x u v y : List SEn) (a' m' b' : Int), a' = (x.length : Nat) → m' = ((x.length + u.length : Nat) : Int) → b' = ((x.length + u.length + v.length : Nat) : Int) → SrtB ltE u → SrtB ltE v → 0 < u.length → 0 < v.length → (x ++ (u ++ (v ++ y))).length ≤ 1099511627776 → ((a' = md ∧ b' = b) ∨ (a' = a ∧ b' = md)) → p0 (x ++ (u ++ (v ++ y)), a', m', b', ()) = true) :
    L_sym_8 p0 (f + 1) (x ++ ((u1 ++ u2) ++ ((v1 ++ v2) ++ y)), a, m, b, (), md, n, s, r, p) = some ((), x ++ (mrgB ltE (u1 ++ u2) (v1 ++ v2) ++ y)) := by
  have hl' := hl
  simp only [List.length_append] at hl'
  rw [sym_8x p0 f _ _ _ _ _ _ _ _ _ _ hr]
  have w : IntKind.i64.wrap (n - s) = n - s := i64_id (by omega) (by omega)
  have fin : K1S p0 (x ++ (u1 ++ (v1 ++ (u2 ++ (v2 ++ y))))) a s md (n - s) b = some ((), x ++ (mrgB ltE (u1 ++ u2) (v1 ++ v2) ++ y)) := by
    have hu' := List.pairwise_append.1 hu
    have hv' := List.pairwise_append.1 hv
    have lm := len_mrgB (lt := ltE) u1 v1
    have k2 : K2S p0 ((x ++ mrgB ltE u1 v1) ++ (u2 ++ (v2 ++ y))) md (n - s) b = some ((), x ++ (mrgB ltE (u1 ++ u2) (v1 ++ v2) ++ y)) := by
      rw [K2S_eq (fun x u v y a' m' b' q1 q2 q3 q4 q5 q6 q7 q8 q9 q10 => hp x u v y a' m' b' q1 q2 q3 q4 q5 q6 q7 q8 (.inl ⟨q9, q10⟩)) (by simp only [List.length_append]; omega) (by simp only [List.length_append]; omega) (by simp only [List.length_append]; omega) hu'.2.1 hv'.2.1 (by simp only [List.length_append]; omega), mrgB_split u1 v1 u2 v2 h1 h2]
      simp
    unfold K1S
    by_cases g1 : a < s
    · by_cases g2 : s < md
      · rw [decide_eq_true g1, decide_eq_true g2, hp x u1 v1 (u2 ++ (v2 ++ y)) a s md ha hs (by omega) hu'.1 hv'.1 (by omega) (by omega) (by simp only [List.length_append]; omega) (.inr ⟨rfl, rfl⟩), symS_dec ha hs (by omega)]
        simp only [cond_true]
        simpa using k2
      · have : v1 = [] := List.eq_nil_of_length_eq_zero (by omega)
        subst this
        rw [decide_eq_true g1, decide_eq_false g2]
        simp only [mrgB_nil] at k2
        simpa using k2
    · have : u1 = [] := List.eq_nil_of_length_eq_zero (by omega)
      subst this
      rw [decide_eq_false g1]
      simp only [mrgB_nil'] at k2
      simpa using k2
  rw [w]
  by_cases g1 : s < m
  · by_cases g2 : m < n - s
    · have e := rotS_dec (x := x ++ u1) (u := u2) (v := v1) (y := v2 ++ y) (a := s) (m := m) (b := n - s) (c := ()) (by simp only [List.length_append]; omega) (by simp only [List.length_append]; omega) (by simp only [List.length_append]; omega)
      have eD : x ++ ((u1 ++ u2) ++ ((v1 ++ v2) ++ y)) = (x ++ u1) ++ (u2 ++ (v1 ++ (v2 ++ y))) := by simp
      rw [eD, e, decide_eq_true g1, decide_eq_true g2, seg3_iff.2 ⟨by omega, g1, g2, by simp only [List.length_append]; omega, by simp only [List.length_append]; omega⟩]
      simp only [cond_true]
      simpa using fin
    · have : v1 = [] := List.eq_nil_of_length_eq_zero (by omega)
      subst this
      rw [decide_eq_true g1, decide_eq_false g2]
      simp only [cond_true, cond_false]
      simpa using fin
  · have : u2 = [] := List.eq_nil_of_length_eq_zero (by omega)
    subst this
    rw [decide_eq_false g1]
    simp only [cond_false]
    simpa using fin
theorem sym_8 {x u v y : List SEn} {a m b md n p : Int} (hu : SrtB ltE u) (hv : SrtB ltE v) (ha : a = (x.length : Nat)) (hm : m = ((x.length + u.length : Nat) : Int)) (hb : b = ((x.length + u.length + v.length : Nat) : Int)) (hmd : md = (a + b) / 2) (hn : n = md + m) (hpe : p = n - 1) (hlu : 0 < u.length) (hlv : 0 < v.length)
    (hl : (x ++ (u ++ (v ++ y))).length ≤ 1099511627776)
    (hp : ∀ (x u v y : List SEn) (a' m' b' : Int), a' = (x.length : Nat) → m' = ((x.length + u.length : Nat) : Int) → b' = ((x.length + u.length + v.length : Nat) : Int) → SrtB ltE u → SrtB ltE v → 0 < u.length → 0 < v.length → (x ++ (u ++ (v ++ y))).length ≤ 1099511627776 → ((a' = md ∧ b' = b) ∨ (a' = a ∧ b' = md)) → p0 (x ++ (u ++ (v ++ y)), a', m', b', ()) = true) :
    ∀ (k : Nat) (s r : Int), (r - s).toNat = k → a ≤ s → s ≤ r → r ≤ m → r ≤ md → n - b ≤ s → (a < s → n - b < s → ltE ((x ++ (u ++ (v ++ y))).getD (n - s).toNat zE) ((x ++ (u ++ (v ++ y))).getD (s - 1).toNat zE) = false) → (r < m → r < md → ltE ((x ++ (u ++ (v ++ y))).getD (p - r).toNat zE) ((x ++ (u ++ (v ++ y))).getD r.toNat zE) = true) →
    ∃ f, L_sym_8 p0 f (x ++ (u ++ (v ++ y)), a, m, b, (), md, n, s, r, p) = some ((), x ++ (mrgB ltE u v ++ y)) := by
  intro k
  induction k using Nat.strongRecOn with
  | _ k ih =>
  intro s r hk h1 h2 h3 h4 h5 i1 i2
  have hl' := hl
  simp only [List.length_append] at hl'
  by_cases hsr : s < r
  · have w0 := hlf (i := s) (j := r) (by omega) (by omega)
    have w1 : IntKind.i64.wrap (p - (s + r) / 2) = p - (s + r) / 2 := i64_id (by omega) (by omega)
    have w2 : IntKind.i64.wrap ((s + r) / 2 + 1) = (s + r) / 2 + 1 := i64_id (by omega) (by omega)
    have hL : (((x ++ (u ++ (v ++ y))).length : Nat) : Int) = ((x.length + (u.length + (v.length + y.length)) : Nat) : Int) := by simp only [List.length_append]
    cases hc : ltE ((x ++ (u ++ (v ++ y))).getD (p - (s + r) / 2).toNat zE) ((x ++ (u ++ (v ++ y))).getD ((s + r) / 2).toNat zE)
    · obtain ⟨f, hf⟩ := ih (r - ((s + r) / 2 + 1)).toNat (by omega) ((s + r) / 2 + 1) r rfl (by omega) (by omega) h3 h4 (by omega) (fun _ _ => by rw [show n - ((s + r) / 2 + 1) = p - (s + r) / 2 by omega, show (s + r) / 2 + 1 - 1 = (s + r) / 2 by omega]; exact hc) i2
      refine ⟨f + 1, (L_sym_8_eq p0 f _ _ _ _ _ _ _ _ _ _).trans ?_⟩
      have hc' : decide (centS ((x ++ (u ++ (v ++ y))).getD (p - (s + r) / 2).toNat (0, 0, 0, 0, 0, [], 0, 0, 0, 0, 0, 0, false), (x ++ (u ++ (v ++ y))).getD ((s + r) / 2).toNat (0, 0, 0, 0, 0, [], 0, 0, 0, 0, 0, 0, false)) < 0) = false := hc
      rw [decide_eq_true hsr, cond_true, w0, w1, w2, hL, hc', decide_eq_true (show 0 ≤ p - (s + r) / 2 by omega), decide_eq_true (show 0 ≤ (s + r) / 2 by omega), decide_eq_true (show p - (s + r) / 2 < ((x.length + (u.length + (v.length + y.length)) : Nat) : Int) by omega), decide_eq_true (show (s + r) / 2 < ((x.length + (u.length + (v.length + y.length)) : Nat) : Int) by omega)]
      exact hf
    · obtain ⟨f, hf⟩ := ih ((s + r) / 2 - s).toNat (by omega) s ((s + r) / 2) rfl h1 (by omega) (by omega) (by omega) h5 i1 (fun _ _ => hc)
      refine ⟨f + 1, (L_sym_8_eq p0 f _ _ _ _ _ _ _ _ _ _).trans ?_⟩
      have hc' : decide (centS ((x ++ (u ++ (v ++ y))).getD (p - (s + r) / 2).toNat (0, 0, 0, 0, 0, [], 0, 0, 0, 0, 0, 0, false), (x ++ (u ++ (v ++ y))).getD ((s + r) / 2).toNat (0, 0, 0, 0, 0, [], 0, 0, 0, 0, 0, 0, false)) < 0) = true := hc
      rw [decide_eq_true hsr, cond_true, w0, w1, w2, hL, hc', decide_eq_true (show 0 ≤ p - (s + r) / 2 by omega), decide_eq_true (show 0 ≤ (s + r) / 2 by omega), decide_eq_true (show p - (s + r) / 2 < ((x.length + (u.length + (v.length + y.length)) : Nat) : Int) by omega), decide_eq_true (show (s + r) / 2 < ((x.length + (u.length + (v.length + y.length)) : Nat) : Int) by omega)]
      exact hf
  · obtain rfl : s = r := by omega
    obtain ⟨u1, u2, rfl, e1⟩ : ∃ u1 u2, u = u1 ++ u2 ∧ s = ((x.length + u1.length : Nat) : Int) := ⟨u.take (s - a).toNat, u.drop (s - a).toNat, (List.take_append_drop _ _).symm, by rw [List.length_take]; omega⟩
    obtain ⟨v1, v2, rfl, e2⟩ : ∃ v1 v2, v = v1 ++ v2 ∧ md = s + (v1.length : Nat) := ⟨v.take (md - s).toNat, v.drop (md - s).toNat, (List.take_append_drop _ _).symm, by rw [List.length_take]; omega⟩
    have hu' := List.pairwise_append.1 hu
    have hv' := List.pairwise_append.1 hv
    simp only [List.length_append] at hm hb hl' hlu hlv
    refine ⟨1, sym_fin 0 hu hv ha e1 (by omega) e2 (by omega) hn hl (fun z hz q hq => ?_) (fun z hz q hq => ?_) (by omega) hp⟩
    · -- the fronts below the backs
      cases u2 with
      | nil => cases hz
      | cons z0 u2 =>
        obtain ⟨v1, q0, rfl⟩ : ∃ v' c, v1 = v' ++ [c] := ⟨v1.dropLast, v1.getLast (by rintro rfl; cases hq), (List.dropLast_concat_getLast _).symm⟩
        simp only [List.length_append, List.length_cons, List.length_nil] at hm hb hl' e2
        have g := i2 (by omega) (by omega)
        have g1 : (x ++ ((u1 ++ z0 :: u2) ++ ((v1 ++ [q0] ++ v2) ++ y))).getD s.toNat zE = z0 := by
          have := getD_mid3 (x := x) (u := u1) (c := z0) (y := u2 ++ ((v1 ++ [q0] ++ v2) ++ y)) (z := zE) (j := s.toNat) (by omega)
          simpa using this
        have g2 : (x ++ ((u1 ++ z0 :: u2) ++ ((v1 ++ [q0] ++ v2) ++ y))).getD (p - s).toNat zE = q0 := by
          have := getD_mid3 (x := x) (u := u1 ++ (z0 :: (u2 ++ v1))) (c := q0) (y := v2 ++ y) (z := zE) (j := (p - s).toNat) (by simp only [List.length_append, List.length_cons]; omega)
          simpa using this
        rw [g1, g2] at g
        have hz0 : ltE z z0 = false := by
          rcases List.mem_cons.1 hz with rfl | hz
          · exact ordE.irrefl _
          · exact (List.pairwise_cons.1 hu'.2.1).1 z hz
        have hq0 : ltE q0 q = false := by
          rcases List.mem_append.1 hq with hq | hq
          · exact (List.pairwise_append.1 hv'.1).2.2 q hq q0 (List.mem_singleton.2 rfl)
          · rw [List.mem_singleton.1 hq]; exact ordE.irrefl _
        exact ordE.lt_le (ordE.le_lt hq0 g) hz0
    · cases v2 with
      | nil => cases hq
      | cons q1 v2 =>
        obtain ⟨u1, z1, rfl⟩ : ∃ u' c, u1 = u' ++ [c] := ⟨u1.dropLast, u1.getLast (by rintro rfl; cases hz), (List.dropLast_concat_getLast _).symm⟩
        simp only [List.length_append, List.length_cons, List.length_nil] at hm hb hl' e1
        have g := i1 (by omega) (by omega)
        have g1 : (x ++ ((u1 ++ [z1] ++ u2) ++ ((v1 ++ q1 :: v2) ++ y))).getD (s - 1).toNat zE = z1 := by
          have := getD_mid3 (x := x) (u := u1) (c := z1) (y := u2 ++ ((v1 ++ q1 :: v2) ++ y)) (z := zE) (j := (s - 1).toNat) (by omega)
          simpa using this
        have g2 : (x ++ ((u1 ++ [z1] ++ u2) ++ ((v1 ++ q1 :: v2) ++ y))).getD (n - s).toNat zE = q1 := by
          have := getD_mid3 (x := x) (u := u1 ++ ([z1] ++ (u2 ++ v1))) (c := q1) (y := v2 ++ y) (z := zE) (j := (n - s).toNat) (by simp only [List.length_append, List.length_cons, List.length_nil]; omega)
          simpa using this
        rw [g1, g2] at g
        have hz0 : ltE z1 z = false := by
          rcases List.mem_append.1 hz with hz | hz
          · exact (List.pairwise_append.1 hu'.1).2.2 z hz z1 (List.mem_singleton.2 rfl)
          · rw [List.mem_singleton.1 hz]; exact ordE.irrefl _
        have hq0 : ltE q q1 = false := by
          rcases List.mem_cons.1 hq with rfl | hq
          · exact ordE.irrefl _
          · exact (List.pairwise_cons.1 hv'.2.1).1 q hq
        exact ordE.ntrans z q1 q (ordE.ntrans z z1 q1 hz0 g) hq0
end
def symM (a : List SEn × Int × Int × Int × Unit) : Nat := (a.2.2.2.1 - a.2.1).toNat
theorem sym_run (n : Nat) : ∀ a, (symP a && decide (symM a < n + 1)) = true → ∃ f, M_sym (fun a => symP a && decide (symM a < n)) f a = some (symS a) := by
  rintro ⟨l, a, m, b, u⟩ h
  obtain ⟨h, hM⟩ := Bool.and_eq_true_iff.1 h
  have hM : (b - a).toNat < n + 1 := of_decide_eq_true hM
  obtain ⟨hs, huv⟩ := Bool.and_eq_true_iff.1 h
  obtain ⟨hu, hv⟩ := Bool.and_eq_true_iff.1 huv
  have hs : seg3 l a m b = true := hs
  have hu : srtdB ltE (mid l a m) = true := hu
  have hv : srtdB ltE (mid l m b) = true := hv
  obtain ⟨h0, h1, h2, h3, h4⟩ := seg3_iff.1 hs
  obtain ⟨x, U, V, y, rfl, e1, e2, e3⟩ := cut4_ex h0 (Int.le_of_lt h1) (Int.le_of_lt h2) h3
  obtain ⟨_, c2, c3, _⟩ := cut4 (y := y) e1 e2 e3
  rw [c2] at hu
  rw [c3] at hv
  have hsu := srtdB_iff.1 hu
  have hsv := srtdB_iff.1 hv
  clear hu hv huv hs h
  have hl' := h4
  simp only [List.length_append] at hl'
  have w1 : IntKind.i64.wrap (m - a) = m - a := i64_id (by omega) (by omega)
  have w2 : IntKind.i64.wrap (b - m) = b - m := i64_id (by omega) (by omega)
  rw [symS_dec e1 e2 e3]
  have hU : 0 < U.length := by omega
  have hV : 0 < V.length := by omega
  by_cases g1 : m - a = 1
  · obtain ⟨z, rfl⟩ : ∃ z, U = [z] := List.length_eq_one_iff.1 (by omega)
    simp only [List.length_cons, List.length_nil] at e2 e3
    obtain ⟨f, hf⟩ := sym_0 (fun a => symP a && decide (symM a < n)) V.length V x [] [] y z a m b rfl e1 (by simp only [List.length_nil]; omega) (by simp only [List.length_nil]; omega) (by simpa using hsv) (fun q hq => by cases hq) (fun q hq => by cases hq) (by simpa using h4)
    refine ⟨f + 1, (M_sym_eq _ f _ _ _ _ _).trans ?_⟩
    have eb : (IntKind.i64.wrap (m - a) == 1) = true := by rw [w1, g1]; rfl
    rw [eb, cond_true]
    simpa using hf
  have eb1 : (IntKind.i64.wrap (m - a) == 1) = false := by rw [w1]; simpa using g1
  by_cases g2 : b - m = 1
  · obtain ⟨q, rfl⟩ : ∃ q, V = [q] := List.length_eq_one_iff.1 (by omega)
    obtain ⟨f, hf⟩ := sym_4 (fun a => symP a && decide (symM a < n)) U.length U x [] [] y q m a m rfl (by simpa using e2) (by simp only [List.length_nil]; omega) (by simp only [List.length_nil]; omega) (by simpa using hsu) (fun q hq => by cases hq) (fun q hq => by cases hq) (by simpa using h4)
    refine ⟨f + 1, (M_sym_eq _ f _ _ _ _ _).trans ?_⟩
    have eb2 : (IntKind.i64.wrap (b - m) == 1) = true := by rw [w2, g2]; rfl
    rw [eb1, eb2, cond_false, cond_true]
    simpa using hf
  have eb2 : (IntKind.i64.wrap (b - m) == 1) = false := by rw [w2]; simpa using g2
  have w0 := hlf (i := a) (j := b) (by omega) (by omega)
  have hp : ∀ (x u v y : List SEn) (a' m' b' : Int), a' = (x.length : Nat) → m' = ((x.length + u.length : Nat) : Int) → b' = ((x.length + u.length + v.length : Nat) : Int) → SrtB ltE u → SrtB ltE v → 0 < u.length → 0 < v.length → (x ++ (u ++ (v ++ y))).length ≤ 1099511627776 → ((a' = (a + b) / 2 ∧ b' = b) ∨ (a' = a ∧ b' = (a + b) / 2)) → (fun a => symP a && decide (symM a < n)) (x ++ (u ++ (v ++ y)), a', m', b', ()) = true := by
    intro x' u' v' y' a' m' b' q1 q2 q3 q4 q5 q6 q7 q8 q9
    refine Bool.and_eq_true_iff.2 ⟨symP_dec q1 q2 q3 q4 q5 q6 q7 q8, decide_eq_true ?_⟩
    show (b' - a').toNat < n
    omega
  have w4 : IntKind.i64.wrap ((a + b) / 2 + m) = (a + b) / 2 + m := i64_id (by omega) (by omega)
  have w5 : IntKind.i64.wrap ((a + b) / 2 + m - b) = (a + b) / 2 + m - b := i64_id (by omega) (by omega)
  have w6 : IntKind.i64.wrap ((a + b) / 2 + m - 1) = (a + b) / 2 + m - 1 := i64_id (by omega) (by omega)
  have go := sym_8 (p0 := fun a => symP a && decide (symM a < n)) (y := y) (md := (a + b) / 2) (n := (a + b) / 2 + m) (p := (a + b) / 2 + m - 1) hsu hsv e1 e2 e3 rfl rfl rfl hU hV h4 hp
  by_cases g3 : m > (a + b) / 2
  · obtain ⟨f, hf⟩ := go _ ((a + b) / 2 + m - b) ((a + b) / 2) rfl (by omega) (by omega) (by omega) (by omega) (by omega) (fun _ _ => by omega) (fun _ _ => by omega)
    refine ⟨f + 1, (M_sym_eq _ f _ _ _ _ _).trans ?_⟩
    rw [eb1, eb2, w0, decide_eq_true g3, w4, w5, w6]
    exact hf
  · obtain ⟨f, hf⟩ := go _ a m rfl (by omega) (by omega) (by omega) (by omega) (by omega) (fun _ _ => by omega) (fun _ _ => by omega)
    refine ⟨f + 1, (M_sym_eq _ f _ _ _ _ _).trans ?_⟩
    rw [eb1, eb2, w0, decide_eq_false g3, w4, w6]
    exact hf
theorem sym_len : ∀ a, symP a = true → (symS a).2.length = a.1.length := by
  rintro ⟨l, a, m, b, u⟩ h
  obtain ⟨hs, _⟩ := Bool.and_eq_true_iff.1 h
  have hs : seg3 l a m b = true := hs
  obtain ⟨h0, h1, h2, h3, h4⟩ := seg3_iff.1 hs
  obtain ⟨x, U, V, y, rfl, e1, e2, e3⟩ := cut4_ex h0 (Int.le_of_lt h1) (Int.le_of_lt h2) h3
  rw [symS_dec e1 e2 e3]
  simp only [List.length_append, len_mrgB]; omega
theorem E0_sym_ok : ∀ n : Nat, (E0_sym (fun a => (symP : (List (SEn)) × Int × Int × Int × Unit → Bool) a && decide ((symM : (List (SEn)) × Int × Int × Int × Unit → Nat) a < n))).Ok Try.prog
  | 0 => EntL.ok1 rfl fun l a hp => absurd (of_decide_eq_true (Bool.and_eq_true_iff.1 hp).2) (Nat.not_lt_zero _)
  | n + 1 => entL_io (C := C_sym (fun a => (symP : (List (SEn)) × Int × Int × Int × Unit → Bool) a && decide ((symM : (List (SEn)) × Int × Int × Int × Unit → Nat) a < n))) (Lt := Lt_sym) (fn := Try.f102) (rs := []) (E0_sym (fun a => (symP : (List (SEn)) × Int × Int × Int × Unit → Bool) a && decide ((symM : (List (SEn)) × Int × Int × Int × Unit → Nat) a < n + 1))) Try.prog rfl rfl rfl mixed (es_sym (E0_sym_ok n)) rfl (ldTL_ln (by decide +kernel)) Try.func102 rfl rfl rfl (Nat.le_of_ble_eq_true rfl) (by kernel_rfl) (by kernel_rfl) (Nat.le_of_ble_eq_true rfl) fun l a hp => ⟨sym_len (l, a) (Bool.and_eq_true_iff.1 hp).1, sym_run n (l, a) hp⟩
noncomputable def E_sym : EntL := ⟨102, false, false, 74, 13, tSEn, [.c (.int .i64), .c (.int .i64), .c (.int .i64), .fn 64 []], [], fun l l2 a => (symP : (List (SEn)) × Int × Int × Int × Unit → Bool) (l, a.1, a.2.1, a.2.2.1, a.2.2.2), fun l l2 a => (symS : (List (SEn)) × Int × Int × Int × Unit → Unit × (List (SEn))) (l, a.1, a.2.1, a.2.2.1, a.2.2.2)⟩
theorem E_sym_ok : E_sym.Ok Try.prog := EntL.ok1 rfl fun l a hp => EntL.of1 rfl (E0_sym_ok ((symM : (List (SEn)) × Int × Int × Int × Unit → Nat) (l, a) + 1)) l a (Bool.and_eq_true_iff.2 ⟨hp, decide_eq_true (Nat.lt_succ_self _)⟩)
end Go.AL
