/-
  Contracts of package forest: Copy, Find, At, Insert, Remove, Descendants, Conflict; of the reference: Remove, Descendants, SameEntries. By an AI agent.
-/
import Derived.Test.YteppokgkagjklaaH0
namespace Go.AL
open Go.Proofs
set_option linter.unusedVariables false
set_option linter.unusedSimpArgs false
noncomputable def C_ecl : Cfg := ⟨Try.prog, [], pmT [], 8, [], []⟩
theorem es_ecl : EsOk Try.prog [] := es_nil
theorem X_ecl (l : List (SEn)) : (runX C_ecl (fun _ => ⟨[], [], 0⟩) (Kret Try.prog [.tmp 2] [.o 32 13 tSEn]) 1 [.code (bodyOf Try.f99)] (initX [.rd tSEn] l) : Option (ResT [.o 32 13 tSEn])) = bif Decidable.decide (0 < l.length) && Bool.true then bif Decidable.decide ((([] : List Nat).length + l.length) * (bytesOf Try.prog 32) ≤ 140737488355328) then some l else none else none := by kernel_rfl
noncomputable def E_ecl : Ent := ⟨99, [.rd tSEn], [.o 32 13 tSEn], fun a => len36n (a : List (SEn)), fun a => (a : List (SEn))⟩
theorem E_ecl_ok : E_ecl.Ok Try.prog := fun a hp vs hv => clone_ok (τ := tSEn) (t := 32) (es := 13)
    (fun a h0 h1 vs hv => fnX_ok (C := C_ecl) (Lt := fun _ => ⟨[], [], 0⟩) (fn := Try.f99) (rs := [.tmp 2]) [.rd tSEn] [.o 32 13 tSEn] mixed es_ecl Try.func99 rfl rfl rfl (by kernel_rfl) (by kernel_rfl) 1 ((X_ecl a).trans (clone_len36 h0 h1 (by decide +kernel))) vs hv)
    (fnX_ok (C := C_ecl) (Lt := fun _ => ⟨[], [], 0⟩) (fn := Try.f99) (rs := [.tmp 2]) (a := ()) [.raw (.slice none 0 0)] [.o 32 13 tSEn] mixed es_ecl Try.func99 rfl rfl rfl (by kernel_rfl) (by kernel_rfl) 1 (by kernel_rfl) _ (by simp only [ArgsV, ArgsV1, ArgV]; exact ⟨_, rfl, rfl⟩))
    (fun b c => fnX_ok (C := C_ecl) (Lt := fun _ => ⟨[], [], 0⟩) (fn := Try.f99) (rs := [.tmp 2]) (a := ()) [.raw (.slice (some b) 0 c)] [.o 32 13 tSEn] mixed es_ecl Try.func99 rfl rfl rfl (by kernel_rfl) (by kernel_rfl) 1 (by kernel_rfl) _ (by simp only [ArgsV, ArgsV1, ArgV]; exact ⟨_, rfl, rfl⟩))
    a (of_decide_eq_true hp) vs hv
def okF (l : List SEn) : Bool := len36n l && okE l
theorem okF_E {l : List SEn} (h : okF l = true) : okE l = true := (Bool.and_eq_true_iff.1 h).2
theorem okF_len {l : List SEn} (h : okF l = true) : l.length ≤ 68719476736 := of_decide_eq_true (Bool.and_eq_true_iff.1 h).1
noncomputable def C_fcop : Cfg := ⟨Try.prog, [E_ecl, E_ncop], pmT [], 24, [], []⟩
theorem es_fcop : EsOk Try.prog [E_ecl, E_ncop] [] := es_cons E_ecl_ok (es_cons E_ncop_ok (es_nil))
def Lt_fcop : Nat → LD := ldT [(0, ⟨[.list 3 999 32 13 tSEn, .c 8 (.int .i64), .c 9 (.int .i64)], [], 0⟩)]
noncomputable def M_fcop (f : Nat) (a : (List (SEn))) : Option ((List (SEn))) := (runX (C_fcop) Lt_fcop (Kret Try.prog [.tmp 2] [.o 32 13 tSEn]) f [.code (bodyOf Try.f67)] (initX [.rd tSEn] a) : Option (ResT [.o 32 13 tSEn]))
noncomputable def L_fcop_0 (f : Nat) (x : (List (SEn)) × Int × Int) : Option ((List (SEn))) := (runX (C_fcop) Lt_fcop (Kret Try.prog [.tmp 2] [.o 32 13 tSEn]) f (headOf Try.f67 0) ((Lt_fcop 0).mk' x) : Option (ResT [.o 32 13 tSEn]))
theorem M_fcop_eq (f : Nat) (l : List (SEn)) : M_fcop (f + 1) l =
    bif len36n l then L_fcop_0 f (l, (↑l.length : Int), 0) else none := by kernel_rfl
theorem L_fcop_0_eq (f : Nat) (out : List (SEn)) (x8 : Int) (x9 : Int) : L_fcop_0 (f + 1) (out, x8, x9) =
    bif decide (x9 < x8) then bif decide (0 ≤ x9) && decide (x9 < (↑out.length : Int)) then bif len40n (out.getD x9.toNat (0, 0, 0, 0, 0, [], 0, 0, 0, 0, 0, 0, false)).2.2.2.2.2.1 then bif decide (0 ≤ x9) && decide (x9 < (↑out.length : Int)) then L_fcop_0 f (out.set x9.toNat (out.getD x9.toNat (0, 0, 0, 0, 0, [], 0, 0, 0, 0, 0, 0, false)), x8, IntKind.i64.wrap (x9 + 1)) else none else none else none else some out := by kernel_rfl
noncomputable def F_fcop_0 : List (SEn) → ((List (SEn)) × Int × Nat) → (List (SEn))
  | [], (out, x8, x9) => out
  | uu :: rest, (out, x8, x9) => F_fcop_0 rest (out.set (↑x9 : Int).toNat uu, x8, x9 + 1)
noncomputable def P_fcop_0 : List (SEn) → ((List (SEn)) × Int × Nat) → Bool
  | [], (out, x8, x9) => true
  | uu :: rest, (out, x8, x9) => len40n uu.2.2.2.2.2.1 && P_fcop_0 rest (out.set (↑x9 : Int).toNat uu, x8, x9 + 1)
theorem A_fcop_0 : ∀ (rest : List (SEn)) (out : List (SEn)) (x8 : Int) (x9 : Nat) (hd : out.drop x9 = rest) (hn : x8 = ((out.length : Nat) : Int)) (hl : out.length ≤ 1099511627776), Rns (fun f => L_fcop_0 f (out, x8, ((x9 : Nat) : Int))) (P_fcop_0 rest (out, x8, x9)) (F_fcop_0 rest (out, x8, x9))
  | [], out, x8, x9, hd, hn, hl => ev_step (T := fun f => some out) (fun f => (L_fcop_0_eq f _ _ _).trans (by simp only [ge_decn hn (drop_ge hd), ge0, Bool.and_self, Bool.true_and, cond_true, cond_false, List.length_set] <;> rfl)) ev_some
  | uu :: rest, out, x8, x9, hd, hn, hl => ev_step (T := fun f => bif len40n uu.2.2.2.2.2.1 then L_fcop_0 f (out.set (↑x9 : Int).toNat uu, x8, (↑(x9 + 1) : Int)) else none) (fun f => (L_fcop_0_eq f _ _ _).trans (by simp only [lt_decn hn (drop_lt hd), lt_dec (drop_lt hd), drop_get hd, wrap_succ (drop_lt hd) hl, getD_set (drop_lt hd), ge0, Bool.and_self, Bool.true_and, cond_true, cond_false, List.length_set] <;> rfl)) (ev_chk (A_fcop_0 rest _ _ _ (by first | exact drop_succ hd | exact drop_set hd | exact drop_setS (drop_set hd)) (by first | exact hn | simpa using hn) (by first | exact hl | simpa using hl)))
noncomputable def F_fcop : (List (SEn)) → (List (SEn))
  | l => F_fcop_0 l (l, (↑l.length : Int), 0)
noncomputable def P_fcop : (List (SEn)) → Bool
  | l => len36n l && (decide (l.length ≤ 1099511627776) && P_fcop_0 l (l, (↑l.length : Int), 0))
theorem fcop_auto : ∀ a : (List (SEn)), Rns (fun f => M_fcop f a) (P_fcop a) (F_fcop a)
  | l => ev_step (fun f => M_fcop_eq f _) (ev_chk (ev_and fun hh => A_fcop_0 _ _ _ _ rfl (by first | rfl | simp) (of_decide_eq_true hh)))
theorem fcop_0 : ∀ (r p : List SEn) (x8 : Int), (∀ e ∈ r, len40n e.2.2.2.2.2.1 = true) → F_fcop_0 r (p ++ r, x8, p.length) = p ++ r ∧ P_fcop_0 r (p ++ r, x8, p.length) = true
  | [], p, x8, h => ⟨by simp [F_fcop_0], rfl⟩
  | u :: r, p, x8, h => by
    obtain ⟨i1, i2⟩ := fcop_0 r (p ++ [u]) x8 (fun e he => h e (List.mem_cons_of_mem _ he))
    have hs : (p ++ u :: r).set (Int.toNat ((p.length : Nat) : Int)) u = p ++ [u] ++ r := by rw [Int.toNat_natCast]; simp
    rw [show (p ++ [u]).length = p.length + 1 by simp] at i1 i2
    simp only [F_fcop_0, P_fcop_0, hs, i1, i2, h u (List.mem_cons_self ..), Bool.and_self, and_true]
    simp
theorem fcop_P : ∀ a, okF a = true → P_fcop a = true := fun a h => by
  have := (fcop_0 a [] ((a.length : Nat) : Int) (fun e he => okE_mem (okF_E h) he)).2
  simp only [List.nil_append, List.length_nil] at this
  simp only [P_fcop, this, Bool.and_true, Bool.and_eq_true]; exact ⟨(Bool.and_eq_true_iff.1 h).1, decide_eq_true (okE_len (okF_E h))⟩
theorem fcop_F : ∀ a, okF a = true → F_fcop a = a := fun a h => by
  have := (fcop_0 a [] ((a.length : Nat) : Int) (fun e he => okE_mem (okF_E h) he)).1
  simpa only [F_fcop, List.nil_append, List.length_nil] using this
theorem fcop_run : ∀ a, (okF : (List (SEn)) → Bool) a = true → ∃ f, M_fcop f a = some ((fun a => a : (List (SEn)) → (List (SEn))) a) := fun a h => by have h1 := fcop_auto a (fcop_P a h); rw [fcop_F a h] at h1; exact h1
noncomputable def E_fcop : Ent := ⟨67, [.rd tSEn], [.o 32 13 tSEn], fun a => (okF : (List (SEn)) → Bool) a, fun a => (fun a => a : (List (SEn)) → (List (SEn))) a⟩
theorem E_fcop_ok : E_fcop.Ok Try.prog := fun a hp vs hv => (fcop_run a hp).elim fun f h => fnX_ok (C := C_fcop) (Lt := Lt_fcop) (fn := Try.f67) (rs := [.tmp 2]) [.rd tSEn] [.o 32 13 tSEn] mixed es_fcop Try.func67 rfl rfl rfl (by kernel_rfl) (by kernel_rfl) f h vs hv
def fndR (k : Int) : Int × Bool := bif decide (k ≥ 0) then (k, true) else (0, false)
noncomputable def C_ffnd : Cfg := ⟨Try.prog, [], pmT [], 22, [], []⟩
theorem es_ffnd : EsOk Try.prog [] [] := es_nil
def Lt_ffnd : Nat → LD := ldT [(0, ⟨[.box 3 3 25 3 tSId, .rd 8 tSEn, .c 9 (.int .i64), .c 10 (.int .i64)], [], 0⟩)]
noncomputable def M_ffnd (f : Nat) (a : (List (SEn)) × SId) : Option (Int × Bool) := (runX (C_ffnd) Lt_ffnd (Kret Try.prog [.tmp 4, .tmp 5] [.v (.int .i64), .v (.bool)]) f [.code (bodyOf Try.f28)] (initX [.rd tSEn, .g tSId] a) : Option (ResT [.v (.int .i64), .v (.bool)]))
noncomputable def L_ffnd_0 (f : Nat) (x : SId × (List (SEn)) × Int × Int) : Option (Int × Bool) := (runX (C_ffnd) Lt_ffnd (Kret Try.prog [.tmp 4, .tmp 5] [.v (.int .i64), .v (.bool)]) f (headOf Try.f28 0) ((Lt_ffnd 0).mk' x) : Option (ResT [.v (.int .i64), .v (.bool)]))
theorem M_ffnd_eq (f : Nat) (l : List (SEn)) (id : SId) : M_ffnd (f + 1) (l, id) =
    L_ffnd_0 f (id, l, (↑l.length : Int), 0) := by kernel_rfl
theorem L_ffnd_0_eq (f : Nat) (id : SId) (x8 : List (SEn)) (x9 : Int) (x10 : Int) : L_ffnd_0 (f + 1) (id, x8, x9, x10) =
    bif decide (x10 < x9) then bif decide (0 ≤ x10) && decide (x10 < (↑x8.length : Int)) then bif (x8.getD x10.toNat (0, 0, 0, 0, 0, [], 0, 0, 0, 0, 0, 0, false)).2.2.1 == id.1 && ((x8.getD x10.toNat (0, 0, 0, 0, 0, [], 0, 0, 0, 0, 0, 0, false)).2.2.2.1 == id.2.1 && ((x8.getD x10.toNat (0, 0, 0, 0, 0, [], 0, 0, 0, 0, 0, 0, false)).2.2.2.2.1 == id.2.2 && true)) then some (x10, true) else L_ffnd_0 f (id, x8, x9, IntKind.i64.wrap (x10 + 1)) else none else some (0, false) := by kernel_rfl
noncomputable def F_ffnd_0 : List (SEn) → (SId × (List (SEn)) × Int × Nat) → Int × Bool
  | [], (id, x8, x9, x10) => (0, false)
  | uu :: rest, (id, x8, x9, x10) => bif uu.2.2.1 == id.1 && (uu.2.2.2.1 == id.2.1 && (uu.2.2.2.2.1 == id.2.2 && true)) then ((↑x10 : Int), true) else F_ffnd_0 rest (id, x8, x9, x10 + 1)
noncomputable def P_ffnd_0 : List (SEn) → (SId × (List (SEn)) × Int × Nat) → Bool
  | [], (id, x8, x9, x10) => true
  | uu :: rest, (id, x8, x9, x10) => bif uu.2.2.1 == id.1 && (uu.2.2.2.1 == id.2.1 && (uu.2.2.2.2.1 == id.2.2 && true)) then true else P_ffnd_0 rest (id, x8, x9, x10 + 1)
theorem A_ffnd_0 : ∀ (rest : List (SEn)) (id : SId) (x8 : List (SEn)) (x9 : Int) (x10 : Nat) (hd : x8.drop x10 = rest) (hn : x9 = ((x8.length : Nat) : Int)) (hl : x8.length ≤ 1099511627776), Rns (fun f => L_ffnd_0 f (id, x8, x9, ((x10 : Nat) : Int))) (P_ffnd_0 rest (id, x8, x9, x10)) (F_ffnd_0 rest (id, x8, x9, x10))
  | [], id, x8, x9, x10, hd, hn, hl => ev_step (T := fun f => some (0, false)) (fun f => (L_ffnd_0_eq f _ _ _ _).trans (by simp only [ge_decn hn (drop_ge hd), ge0, Bool.and_self, Bool.true_and, cond_true, cond_false, List.length_set] <;> rfl)) ev_some
  | uu :: rest, id, x8, x9, x10, hd, hn, hl => ev_step (T := fun f => bif uu.2.2.1 == id.1 && (uu.2.2.2.1 == id.2.1 && (uu.2.2.2.2.1 == id.2.2 && true)) then some ((↑x10 : Int), true) else L_ffnd_0 f (id, x8, x9, (↑(x10 + 1) : Int))) (fun f => (L_ffnd_0_eq f _ _ _ _).trans (by simp only [lt_decn hn (drop_lt hd), lt_dec (drop_lt hd), drop_get hd, wrap_succ (drop_lt hd) hl, getD_set (drop_lt hd), ge0, Bool.and_self, Bool.true_and, cond_true, cond_false, List.length_set] <;> rfl)) (ev_bif ev_some (A_ffnd_0 rest _ _ _ _ (by first | exact drop_succ hd | exact drop_set hd | exact drop_setS (drop_set hd)) (by first | exact hn | simpa using hn) (by first | exact hl | simpa using hl)))
noncomputable def F_ffnd : ((List (SEn)) × SId) → Int × Bool
  | (l, id) => F_ffnd_0 l (id, l, (↑l.length : Int), 0)
noncomputable def P_ffnd : ((List (SEn)) × SId) → Bool
  | (l, id) => decide (l.length ≤ 1099511627776) && P_ffnd_0 l (id, l, (↑l.length : Int), 0)
theorem ffnd_auto : ∀ a : (List (SEn)) × SId, Rns (fun f => M_ffnd f a) (P_ffnd a) (F_ffnd a)
  | (l, id) => ev_step (fun f => M_ffnd_eq f _ _) (ev_and fun hh => A_ffnd_0 _ _ _ _ _ rfl (by first | rfl | simp) (of_decide_eq_true hh))
theorem ffnd_0 (l : List SEn) (id : SId) (x : Int) : ∀ (r : List SEn) (k : Nat), F_ffnd_0 r (id, l, x, k) = fndR (findI (fun e => decide (eid e = id)) r k) ∧ P_ffnd_0 r (id, l, x, k) = true
  | [], k => ⟨rfl, rfl⟩
  | u :: r, k => by
    obtain ⟨i1, i2⟩ := ffnd_0 l id x r (k + 1)
    simp only [F_ffnd_0, P_ffnd_0, findI, eid_eq, i1, i2]
    cases decide (eid u = id)
    · exact ⟨rfl, rfl⟩
    · exact ⟨by simp [fndR], rfl⟩
theorem ffnd_P : ∀ a : List SEn × SId, len40n a.1 = true → P_ffnd a = true := fun a h => by simp only [P_ffnd, (ffnd_0 _ _ _ _ _).2, Bool.and_true]; exact h
theorem ffnd_F : ∀ a : List SEn × SId, len40n a.1 = true → F_ffnd a = fndR (findE a.1 a.2) := fun a h => by simp only [F_ffnd, (ffnd_0 _ _ _ _ _).1]; rfl
theorem ffnd_run : ∀ a, (fun a => len40n a.1 : (List (SEn)) × SId → Bool) a = true → ∃ f, M_ffnd f a = some ((fun a => fndR (findE a.1 a.2) : (List (SEn)) × SId → Int × Bool) a) := fun a h => by have h1 := ffnd_auto a (ffnd_P a h); rw [ffnd_F a h] at h1; exact h1
noncomputable def E_ffnd : Ent := ⟨28, [.rd tSEn, .g tSId], [.v (.int .i64), .v (.bool)], fun a => (fun a => len40n a.1 : (List (SEn)) × SId → Bool) a, fun a => (fun a => fndR (findE a.1 a.2) : (List (SEn)) × SId → Int × Bool) a⟩
theorem E_ffnd_ok : E_ffnd.Ok Try.prog := fun a hp vs hv => (ffnd_run a hp).elim fun f h => fnX_ok (C := C_ffnd) (Lt := Lt_ffnd) (fn := Try.f28) (rs := [.tmp 4, .tmp 5]) [.rd tSEn, .g tSId] [.v (.int .i64), .v (.bool)] mixed es_ffnd Try.func28 rfl rfl rfl (by kernel_rfl) (by kernel_rfl) f h vs hv
noncomputable def C_fat : Cfg := ⟨Try.prog, [], pmT [], 29, [], []⟩
theorem es_fat : EsOk Try.prog [] [] := es_nil
def Lt_fat : Nat → LD := ldT [(0, ⟨[.c 1 (.int .i64), .c 2 (.int .i64), .rd 10 tSEn, .c 11 (.int .i64), .c 12 (.int .i64)], [], 0⟩)]
noncomputable def M_fat (f : Nat) (a : (List (SEn)) × Int × Int) : Option (Int × Bool) := (runX (C_fat) Lt_fat (Kret Try.prog [.tmp 6, .tmp 7] [.v (.int .i64), .v (.bool)]) f [.code (bodyOf Try.f29)] (initX [.rd tSEn, .c (.int .i64), .c (.int .i64)] a) : Option (ResT [.v (.int .i64), .v (.bool)]))
noncomputable def L_fat_0 (f : Nat) (x : Int × Int × (List (SEn)) × Int × Int) : Option (Int × Bool) := (runX (C_fat) Lt_fat (Kret Try.prog [.tmp 6, .tmp 7] [.v (.int .i64), .v (.bool)]) f (headOf Try.f29 0) ((Lt_fat 0).mk' x) : Option (ResT [.v (.int .i64), .v (.bool)]))
theorem M_fat_eq (f : Nat) (l : List (SEn)) (core : Int) (slot : Int) : M_fat (f + 1) (l, core, slot) =
    L_fat_0 f (core, slot, l, (↑l.length : Int), 0) := by kernel_rfl
theorem L_fat_0_eq (f : Nat) (core : Int) (slot : Int) (x10 : List (SEn)) (x11 : Int) (x12 : Int) : L_fat_0 (f + 1) (core, slot, x10, x11, x12) =
    bif decide (x12 < x11) then bif decide (0 ≤ x12) && decide (x12 < (↑x10.length : Int)) then bif (x10.getD x12.toNat (0, 0, 0, 0, 0, [], 0, 0, 0, 0, 0, 0, false)).1 == core then bif (x10.getD x12.toNat (0, 0, 0, 0, 0, [], 0, 0, 0, 0, 0, 0, false)).2.1 == slot then some (x12, true) else L_fat_0 f (core, slot, x10, x11, IntKind.i64.wrap (x12 + 1)) else L_fat_0 f (core, slot, x10, x11, IntKind.i64.wrap (x12 + 1)) else none else some (0, false) := by kernel_rfl
noncomputable def F_fat_0 : List (SEn) → (Int × Int × (List (SEn)) × Int × Nat) → Int × Bool
  | [], (core, slot, x10, x11, x12) => (0, false)
  | uu :: rest, (core, slot, x10, x11, x12) => bif uu.1 == core then bif uu.2.1 == slot then ((↑x12 : Int), true) else F_fat_0 rest (core, slot, x10, x11, x12 + 1) else F_fat_0 rest (core, slot, x10, x11, x12 + 1)
noncomputable def P_fat_0 : List (SEn) → (Int × Int × (List (SEn)) × Int × Nat) → Bool
  | [], (core, slot, x10, x11, x12) => true
  | uu :: rest, (core, slot, x10, x11, x12) => bif uu.1 == core then bif uu.2.1 == slot then true else P_fat_0 rest (core, slot, x10, x11, x12 + 1) else P_fat_0 rest (core, slot, x10, x11, x12 + 1)
theorem A_fat_0 : ∀ (rest : List (SEn)) (core : Int) (slot : Int) (x10 : List (SEn)) (x11 : Int) (x12 : Nat) (hd : x10.drop x12 = rest) (hn : x11 = ((x10.length : Nat) : Int)) (hl : x10.length ≤ 1099511627776), Rns (fun f => L_fat_0 f (core, slot, x10, x11, ((x12 : Nat) : Int))) (P_fat_0 rest (core, slot, x10, x11, x12)) (F_fat_0 rest (core, slot, x10, x11, x12))
  | [], core, slot, x10, x11, x12, hd, hn, hl => ev_step (T := fun f => some (0, false)) (fun f => (L_fat_0_eq f _ _ _ _ _).trans (by simp only [ge_decn hn (drop_ge hd), ge0, Bool.and_self, Bool.true_and, cond_true, cond_false, List.length_set] <;> rfl)) ev_some
  | uu :: rest, core, slot, x10, x11, x12, hd, hn, hl => ev_step (T := fun f => bif uu.1 == core then bif uu.2.1 == slot then some ((↑x12 : Int), true) else L_fat_0 f (core, slot, x10, x11, (↑(x12 + 1) : Int)) else L_fat_0 f (core, slot, x10, x11, (↑(x12 + 1) : Int))) (fun f => (L_fat_0_eq f _ _ _ _ _).trans (by simp only [lt_decn hn (drop_lt hd), lt_dec (drop_lt hd), drop_get hd, wrap_succ (drop_lt hd) hl, getD_set (drop_lt hd), ge0, Bool.and_self, Bool.true_and, cond_true, cond_false, List.length_set] <;> rfl)) (ev_bif (ev_bif ev_some (A_fat_0 rest _ _ _ _ _ (by first | exact drop_succ hd | exact drop_set hd | exact drop_setS (drop_set hd)) (by first | exact hn | simpa using hn) (by first | exact hl | simpa using hl))) (A_fat_0 rest _ _ _ _ _ (by first | exact drop_succ hd | exact drop_set hd | exact drop_setS (drop_set hd)) (by first | exact hn | simpa using hn) (by first | exact hl | simpa using hl)))
noncomputable def F_fat : ((List (SEn)) × Int × Int) → Int × Bool
  | (l, core, slot) => F_fat_0 l (core, slot, l, (↑l.length : Int), 0)
noncomputable def P_fat : ((List (SEn)) × Int × Int) → Bool
  | (l, core, slot) => decide (l.length ≤ 1099511627776) && P_fat_0 l (core, slot, l, (↑l.length : Int), 0)
theorem fat_auto : ∀ a : (List (SEn)) × Int × Int, Rns (fun f => M_fat f a) (P_fat a) (F_fat a)
  | (l, core, slot) => ev_step (fun f => M_fat_eq f _ _ _) (ev_and fun hh => A_fat_0 _ _ _ _ _ _ rfl (by first | rfl | simp) (of_decide_eq_true hh))
theorem fat_0 (l : List SEn) (c s x : Int) : ∀ (r : List SEn) (k : Nat), F_fat_0 r (c, s, l, x, k) = fndR (findI (fun e => decide (e.1 = c) && decide (e.2.1 = s)) r k) ∧ P_fat_0 r (c, s, l, x, k) = true
  | [], k => ⟨rfl, rfl⟩
  | u :: r, k => by
    obtain ⟨i1, i2⟩ := fat_0 l c s x r (k + 1)
    simp only [F_fat_0, P_fat_0, findI, beqI, i1, i2]
    cases decide (u.1 = c)
    · exact ⟨rfl, rfl⟩
    · cases decide (u.2.1 = s)
      · exact ⟨rfl, rfl⟩
      · exact ⟨by simp [fndR], rfl⟩
theorem fat_P : ∀ a : List SEn × Int × Int, len40n a.1 = true → P_fat a = true := fun a h => by simp only [P_fat, (fat_0 _ _ _ _ _ _).2, Bool.and_true]; exact h
theorem fat_F : ∀ a : List SEn × Int × Int, len40n a.1 = true → F_fat a = fndR (atE a.1 a.2.1 a.2.2) := fun a h => by simp only [F_fat, (fat_0 _ _ _ _ _ _).1]; rfl
theorem fat_run : ∀ a, (fun a => len40n a.1 : (List (SEn)) × Int × Int → Bool) a = true → ∃ f, M_fat f a = some ((fun a => fndR (atE a.1 a.2.1 a.2.2) : (List (SEn)) × Int × Int → Int × Bool) a) := fun a h => by have h1 := fat_auto a (fat_P a h); rw [fat_F a h] at h1; exact h1
noncomputable def E_fat : Ent := ⟨29, [.rd tSEn, .c (.int .i64), .c (.int .i64)], [.v (.int .i64), .v (.bool)], fun a => (fun a => len40n a.1 : (List (SEn)) × Int × Int → Bool) a, fun a => (fun a => fndR (atE a.1 a.2.1 a.2.2) : (List (SEn)) × Int × Int → Int × Bool) a⟩
theorem E_fat_ok : E_fat.Ok Try.prog := fun a hp vs hv => (fat_run a hp).elim fun f h => fnX_ok (C := C_fat) (Lt := Lt_fat) (fn := Try.f29) (rs := [.tmp 6, .tmp 7]) [.rd tSEn, .c (.int .i64), .c (.int .i64)] [.v (.int .i64), .v (.bool)] mixed es_fat Try.func29 rfl rfl rfl (by kernel_rfl) (by kernel_rfl) f h vs hv
theorem findE_lt (l : List SEn) (id : SId) : findE l id < l.length := by have := findI_lt (fun e : SEn => decide (eid e = id)) l 0 (by omega); unfold findE; omega
theorem fndR_ok (k : Int) : (fndR k).2 = decide (k ≥ 0) := by unfold fndR; cases decide (k ≥ 0) <;> rfl
noncomputable def C_fins : Cfg := ⟨Try.prog, [E_ffnd, E_fat, E_nless, E_fcop, E_ncop], pmT [], 64, [E_ins], []⟩
theorem es_fins : EsOk Try.prog [E_ffnd, E_fat, E_nless, E_fcop, E_ncop] [E_ins] := el_cons E_ins_ok (es_cons E_ffnd_ok (es_cons E_fat_ok (es_cons E_nless_ok (es_cons E_fcop_ok (es_cons E_ncop_ok (es_nil))))))
def Lt_fins : Nat → LD := ldT [(0, ⟨[.rd 0 tSEn, .box 3 3 32 13 tSEn, .c 10 (.int .i64), .rd 37 tSEn, .c 38 (.int .i64), .c 39 (.int .i64)], [], 0⟩)]
noncomputable def M_fins (f : Nat) (a : (List (SEn)) × SEn) : Option ((List (SEn)) × Bool) := (runX (C_fins) Lt_fins (Kret Try.prog [.tmp 4, .tmp 5] [.o 32 13 tSEn, .v (.bool)]) f [.code (bodyOf Try.f27)] (initX [.rd tSEn, .g tSEn] a) : Option (ResT [.o 32 13 tSEn, .v (.bool)]))
noncomputable def L_fins_0 (f : Nat) (x : (List (SEn)) × SEn × Int × (List (SEn)) × Int × Int) : Option ((List (SEn)) × Bool) := (runX (C_fins) Lt_fins (Kret Try.prog [.tmp 4, .tmp 5] [.o 32 13 tSEn, .v (.bool)]) f (headOf Try.f27 0) ((Lt_fins 0).mk' x) : Option (ResT [.o 32 13 tSEn, .v (.bool)]))
theorem M_fins_eq (f : Nat) (l : List (SEn)) (e : SEn) : M_fins (f + 1) (l, e) =
    bif len40n l then bif len40n l then bif (fndR (findE l (e.2.2.1, e.2.2.2.1, e.2.2.2.2.1))).2 then some ([], false) else bif (fndR (atE l e.1 e.2.1)).2 then some ([], false) else L_fins_0 f (l, e, (↑l.length : Int), l, (↑l.length : Int), 0) else none else none := by kernel_rfl
theorem L_fins_0_eq (f : Nat) (l : List (SEn)) (e : SEn) (at0 : Int) (x37 : List (SEn)) (x38 : Int) (x39 : Int) : L_fins_0 (f + 1) (l, e, at0, x37, x38, x39) =
    bif decide (x39 < x38) then bif decide (0 ≤ x39) && decide (x39 < (↑x37.length : Int)) then bif lessI ((e.2.2.1, e.2.2.2.1, e.2.2.2.2.1), (x37.getD x39.toNat (0, 0, 0, 0, 0, [], 0, 0, 0, 0, 0, 0, false)).2.2.1, (x37.getD x39.toNat (0, 0, 0, 0, 0, [], 0, 0, 0, 0, 0, 0, false)).2.2.2.1, (x37.getD x39.toNat (0, 0, 0, 0, 0, [], 0, 0, 0, 0, 0, 0, false)).2.2.2.2.1) then bif okF l then bif len40n e.2.2.2.2.2.1 then bif E_ins.pre l [e] x39 then some ((E_ins.fn l [e] x39).1, true) else none else none else none else L_fins_0 f (l, e, at0, x37, x38, IntKind.i64.wrap (x39 + 1)) else none else bif okF l then bif len40n e.2.2.2.2.2.1 then bif E_ins.pre l [e] at0 then some ((E_ins.fn l [e] at0).1, true) else none else none else none := by kernel_rfl
noncomputable def F_fins_0 : List (SEn) → ((List (SEn)) × SEn × Int × (List (SEn)) × Int × Nat) → (List (SEn)) × Bool
  | [], (l, e, at0, x37, x38, x39) => ((E_ins.fn l [e] at0).1, true)
  | uu :: rest, (l, e, at0, x37, x38, x39) => bif lessI ((e.2.2.1, e.2.2.2.1, e.2.2.2.2.1), uu.2.2.1, uu.2.2.2.1, uu.2.2.2.2.1) then ((E_ins.fn l [e] (↑x39 : Int)).1, true) else F_fins_0 rest (l, e, at0, x37, x38, x39 + 1)
noncomputable def P_fins_0 : List (SEn) → ((List (SEn)) × SEn × Int × (List (SEn)) × Int × Nat) → Bool
  | [], (l, e, at0, x37, x38, x39) => okF l && (len40n e.2.2.2.2.2.1 && E_ins.pre l [e] at0)
  | uu :: rest, (l, e, at0, x37, x38, x39) => bif lessI ((e.2.2.1, e.2.2.2.1, e.2.2.2.2.1), uu.2.2.1, uu.2.2.2.1, uu.2.2.2.2.1) then okF l && (len40n e.2.2.2.2.2.1 && E_ins.pre l [e] (↑x39 : Int)) else P_fins_0 rest (l, e, at0, x37, x38, x39 + 1)
theorem A_fins_0 : ∀ (rest : List (SEn)) (l : List (SEn)) (e : SEn) (at0 : Int) (x37 : List (SEn)) (x38 : Int) (x39 : Nat) (hd : x37.drop x39 = rest) (hn : x38 = ((x37.length : Nat) : Int)) (hl : x37.length ≤ 1099511627776), Rns (fun f => L_fins_0 f (l, e, at0, x37, x38, ((x39 : Nat) : Int))) (P_fins_0 rest (l, e, at0, x37, x38, x39)) (F_fins_0 rest (l, e, at0, x37, x38, x39))
  | [], l, e, at0, x37, x38, x39, hd, hn, hl => ev_step (T := fun f => bif okF l then bif len40n e.2.2.2.2.2.1 then bif E_ins.pre l [e] at0 then some ((E_ins.fn l [e] at0).1, true) else none else none else none) (fun f => (L_fins_0_eq f _ _ _ _ _ _).trans (by simp only [ge_decn hn (drop_ge hd), ge0, Bool.and_self, Bool.true_and, cond_true, cond_false, List.length_set] <;> rfl)) (ev_chk (ev_chk (ev_chk1 ev_some)))
  | uu :: rest, l, e, at0, x37, x38, x39, hd, hn, hl => ev_step (T := fun f => bif lessI ((e.2.2.1, e.2.2.2.1, e.2.2.2.2.1), uu.2.2.1, uu.2.2.2.1, uu.2.2.2.2.1) then bif okF l then bif len40n e.2.2.2.2.2.1 then bif E_ins.pre l [e] (↑x39 : Int) then some ((E_ins.fn l [e] (↑x39 : Int)).1, true) else none else none else none else L_fins_0 f (l, e, at0, x37, x38, (↑(x39 + 1) : Int))) (fun f => (L_fins_0_eq f _ _ _ _ _ _).trans (by simp only [lt_decn hn (drop_lt hd), lt_dec (drop_lt hd), drop_get hd, wrap_succ (drop_lt hd) hl, getD_set (drop_lt hd), ge0, Bool.and_self, Bool.true_and, cond_true, cond_false, List.length_set] <;> rfl)) (ev_bif (ev_chk (ev_chk (ev_chk1 ev_some))) (A_fins_0 rest _ _ _ _ _ _ (by first | exact drop_succ hd | exact drop_set hd | exact drop_setS (drop_set hd)) (by first | exact hn | simpa using hn) (by first | exact hl | simpa using hl)))
noncomputable def F_fins : ((List (SEn)) × SEn) → (List (SEn)) × Bool
  | (l, e) => bif (fndR (findE l (e.2.2.1, e.2.2.2.1, e.2.2.2.2.1))).2 then ([], false) else bif (fndR (atE l e.1 e.2.1)).2 then ([], false) else F_fins_0 l (l, e, (↑l.length : Int), l, (↑l.length : Int), 0)
noncomputable def P_fins : ((List (SEn)) × SEn) → Bool
  | (l, e) => len40n l && (len40n l && bif (fndR (findE l (e.2.2.1, e.2.2.2.1, e.2.2.2.2.1))).2 then true else bif (fndR (atE l e.1 e.2.1)).2 then true else decide (l.length ≤ 1099511627776) && P_fins_0 l (l, e, (↑l.length : Int), l, (↑l.length : Int), 0))
theorem fins_auto : ∀ a : (List (SEn)) × SEn, Rns (fun f => M_fins f a) (P_fins a) (F_fins a)
  | (l, e) => ev_step (fun f => M_fins_eq f _ _) (ev_chk (ev_chk (ev_bif ev_some (ev_bif ev_some (ev_and fun hh => A_fins_0 _ _ _ _ _ _ _ rfl (by first | rfl | simp) (of_decide_eq_true hh))))))
def insPreF (a : List SEn × SEn) : Bool := okF a.1 && len40n a.2.2.2.2.2.2.1
theorem fins_0 (l : List SEn) (e : SEn) (hl : okF l = true) (he : len40n e.2.2.2.2.2.1 = true) (x : Int) : ∀ (r : List SEn) (k : Nat), l.drop k = r → k ≤ l.length →
    F_fins_0 r (l, e, ((l.length : Nat) : Int), l, x, k) = (l.take k ++ insL e r, true) ∧ P_fins_0 r (l, e, ((l.length : Nat) : Int), l, x, k) = true
  | [], k, h, hk => by
    have hlen := okF_len hl
    have : l.length ≤ k := by have := congrArg List.length h; simp at this; omega
    have hke : k = l.length := by omega
    subst hke
    constructor
    · show (insF l [e] ((l.length : Nat) : Int), true) = _
      simp [insF, insL]
    · show (okF l && (len40n e.2.2.2.2.2.1 && insP 120 l [e] ((l.length : Nat) : Int))) = true
      rw [hl, he]
      simp only [insP, Bool.true_and, Bool.and_eq_true, decide_eq_true_eq]
      exact ⟨⟨by omega, by omega⟩, rfl, by omega⟩
  | u :: r, k, h, hk => by
    obtain ⟨i1, i2⟩ := fins_0 l e hl he x r (k + 1) (drop_succ h) (drop_lt h)
    have hlen := okF_len hl
    have e1 : lessI ((e.2.2.1, e.2.2.2.1, e.2.2.2.2.1), u.2.2.1, u.2.2.2.1, u.2.2.2.2.1) = lessI (eid e, eid u) := rfl
    have e2 : ((insF l [e] ((k : Nat) : Int), true) : List SEn × Bool) = (l.take k ++ e :: u :: r, true) := by
      simp only [insF, Int.toNat_natCast, h, List.append_assoc, List.singleton_append]
    have e3 : insP 120 l [e] ((k : Nat) : Int) = true := by
      simp only [insP, Bool.and_eq_true, decide_eq_true_eq]
      exact ⟨⟨by omega, by omega⟩, rfl, by omega⟩
    simp only [F_fins_0, P_fins_0, e1, insL, i1, i2]
    cases lessI (eid e, eid u)
    · exact ⟨by simp [take_succ_drop h], rfl⟩
    · exact ⟨e2, by show (okF l && (len40n e.2.2.2.2.2.1 && insP 120 l [e] ((k : Nat) : Int))) = true; rw [hl, he, e3]; rfl⟩
theorem fins_both : ∀ a : List SEn × SEn, insPreF a = true → P_fins a = true ∧ F_fins a = insS a := by
  rintro ⟨l, e⟩ h
  simp only [insPreF, Bool.and_eq_true] at h
  have hlen := okF_len h.1
  obtain ⟨i1, i2⟩ := fins_0 l e h.1 h.2 ((l.length : Nat) : Int) l 0 rfl (by omega)
  have h4 : len40n l = true := decide_eq_true (by omega)
  have e1 : ((e.2.2.1, e.2.2.2.1, e.2.2.2.2.1) : SId) = eid e := rfl
  have hl : l.length ≤ 1099511627776 := by omega
  simp only [P_fins, F_fins, insS, fndR_ok, h4, e1, i1, i2, decide_eq_true hl, Bool.true_and]
  show (bif decide (findE l (eid e) ≥ 0) then true else bif decide (atE l e.1 e.2.1 ≥ 0) then true else true) = true ∧ (bif decide (findE l (eid e) ≥ 0) then ([], false) else bif decide (atE l e.1 e.2.1 ≥ 0) then ([], false) else ([] ++ insL e l, true)) = (bif decide (findE l (eid e) ≥ 0) || decide (atE l e.1 e.2.1 ≥ 0) then ([], false) else (insL e l, true))
  cases decide (findE l (eid e) ≥ 0) <;> cases decide (atE l e.1 e.2.1 ≥ 0) <;> exact ⟨rfl, rfl⟩
theorem fins_P : ∀ a : List SEn × SEn, insPreF a = true → P_fins a = true := fun a h => (fins_both a h).1
theorem fins_F : ∀ a : List SEn × SEn, insPreF a = true → F_fins a = insS a := fun a h => (fins_both a h).2
theorem fins_run : ∀ a, (insPreF : (List (SEn)) × SEn → Bool) a = true → ∃ f, M_fins f a = some ((insS : (List (SEn)) × SEn → (List (SEn)) × Bool) a) := fun a h => by have h1 := fins_auto a (fins_P a h); rw [fins_F a h] at h1; exact h1
noncomputable def E_fins : Ent := ⟨27, [.rd tSEn, .g tSEn], [.o 32 13 tSEn, .v (.bool)], fun a => (insPreF : (List (SEn)) × SEn → Bool) a, fun a => (insS : (List (SEn)) × SEn → (List (SEn)) × Bool) a⟩
theorem E_fins_ok : E_fins.Ok Try.prog := fun a hp vs hv => (fins_run a hp).elim fun f h => fnX_ok (C := C_fins) (Lt := Lt_fins) (fn := Try.f27) (rs := [.tmp 4, .tmp 5]) [.rd tSEn, .g tSEn] [.o 32 13 tSEn, .v (.bool)] mixed es_fins Try.func27 rfl rfl rfl (by kernel_rfl) (by kernel_rfl) f h vs hv
end Go.AL
