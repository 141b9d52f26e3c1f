/-
  Contracts of package forest: Copy, Find, At, Insert, Remove, Descendants, Conflict; of the reference: Remove, Descendants, SameEntries. By an AI agent.
-/
import Derived.Test.YteppokgkagjklaaH0
namespace Go.AL
open Go.Proofs
set_option linter.unusedVariables false
set_option linter.unusedSimpArgs false
noncomputable def C_ecl : Cfg := ⟨Try.prog, [], pmT [], 8, []⟩
theorem es_ecl : EsOk Try.prog [] := es_nil
theorem X_ecl (l : List (SEn)) : (runX C_ecl (fun _ => ⟨[], []⟩) (Kret Try.prog [.tmp 2] [.o 32 13 tSEn]) 1 [.code (bodyOf Try.f99)] (initX [.rd tSEn] l) : Option (ResT [.o 32 13 tSEn])) = bif Decidable.decide (0 < l.length) && Bool.true then bif Decidable.decide ((([] : List Nat).length + l.length) * (bytesOf Try.prog 32) ≤ 140737488355328) then some l else none else none := by kernel_rfl
noncomputable def E_ecl : Ent := ⟨99, [.rd tSEn], [.o 32 13 tSEn], fun a => len36n (a : List (SEn)), fun a => (a : List (SEn))⟩
theorem E_ecl_ok : E_ecl.Ok Try.prog := fun a hp vs hv => clone_ok (τ := tSEn) (t := 32) (es := 13)
    (fun a h0 h1 vs hv => fnX_ok (C := C_ecl) (Lt := fun _ => ⟨[], []⟩) (fn := Try.f99) (rs := [.tmp 2]) [.rd tSEn] [.o 32 13 tSEn] mixed es_ecl Try.func99 rfl rfl rfl (by kernel_rfl) (by kernel_rfl) 1 ((X_ecl a).trans (clone_len36 h0 h1 (by decide +kernel))) vs hv)
    (fnX_ok (C := C_ecl) (Lt := fun _ => ⟨[], []⟩) (fn := Try.f99) (rs := [.tmp 2]) (a := ()) [.raw (.slice none 0 0)] [.o 32 13 tSEn] mixed es_ecl Try.func99 rfl rfl rfl (by kernel_rfl) (by kernel_rfl) 1 (by kernel_rfl) _ (by simp only [ArgsV, ArgsV1, ArgV]; exact ⟨_, rfl, rfl⟩))
    (fun b c => fnX_ok (C := C_ecl) (Lt := fun _ => ⟨[], []⟩) (fn := Try.f99) (rs := [.tmp 2]) (a := ()) [.raw (.slice (some b) 0 c)] [.o 32 13 tSEn] mixed es_ecl Try.func99 rfl rfl rfl (by kernel_rfl) (by kernel_rfl) 1 (by kernel_rfl) _ (by simp only [ArgsV, ArgsV1, ArgV]; exact ⟨_, rfl, rfl⟩))
    a (of_decide_eq_true hp) vs hv
def okF (l : List SEn) : Bool := len36n l && okE l
theorem okF_E {l : List SEn} (h : okF l = true) : okE l = true := (Bool.and_eq_true_iff.1 h).2
theorem okF_len {l : List SEn} (h : okF l = true) : l.length ≤ 68719476736 := of_decide_eq_true (Bool.and_eq_true_iff.1 h).1
noncomputable def C_fcop : Cfg := ⟨Try.prog, [E_ecl, E_ncop], pmT [], 24, []⟩
theorem es_fcop : EsOk Try.prog [E_ecl, E_ncop] [] := es_cons E_ecl_ok (es_cons E_ncop_ok (es_nil))
def Lt_fcop : Nat → LD := ldT [(0, ⟨[.list 3 999 32 13 tSEn, .c 8 (.int .i64), .c 9 (.int .i64)], []⟩)]
noncomputable def M_fcop (f : Nat) (a : (List (SEn))) : Option ((List (SEn))) := (runX (C_fcop) Lt_fcop (Kret Try.prog [.tmp 2] [.o 32 13 tSEn]) f [.code (bodyOf Try.f67)] (initX [.rd tSEn] a) : Option (ResT [.o 32 13 tSEn]))
noncomputable def L_fcop_0 (f : Nat) (x : (List (SEn)) × Int × Int) : Option ((List (SEn))) := (runX (C_fcop) Lt_fcop (Kret Try.prog [.tmp 2] [.o 32 13 tSEn]) f (headOf Try.f67 0) ((Lt_fcop 0).mk' x) : Option (ResT [.o 32 13 tSEn]))
theorem M_fcop_eq (f : Nat) (l : List (SEn)) : M_fcop (f + 1) l =
    bif len36n l then L_fcop_0 f (l, (↑l.length : Int), 0) else none := by kernel_rfl
theorem L_fcop_0_eq (f : Nat) (out : List (SEn)) (x8 : Int) (x9 : Int) : L_fcop_0 (f + 1) (out, x8, x9) =
    bif decide (x9 < x8) then bif decide (0 ≤ x9) && decide (x9 < (↑out.length : Int)) then bif len40n (out.getD x9.toNat (0, 0, 0, 0, 0, [], 0, 0, 0, 0, 0, 0, false)).2.2.2.2.2.1 then bif decide (0 ≤ x9) && decide (x9 < (↑out.length : Int)) then L_fcop_0 f (out.set x9.toNat (out.getD x9.toNat (0, 0, 0, 0, 0, [], 0, 0, 0, 0, 0, 0, false)), x8, IntKind.i64.wrap (x9 + 1)) else none else none else none else some out := by kernel_rfl
noncomputable def F_fcop_0 : List (SEn) → ((List (SEn)) × Int × Nat) → (List (SEn))
  | [], (out, x8, x9) => out
  | uu :: rest, (out, x8, x9) => F_fcop_0 rest (out.set (↑x9 : Int).toNat uu, x8, x9 + 1)
noncomputable def P_fcop_0 : List (SEn) → ((List (SEn)) × Int × Nat) → Bool
  | [], (out, x8, x9) => true
  | uu :: rest, (out, x8, x9) => len40n uu.2.2.2.2.2.1 && P_fcop_0 rest (out.set (↑x9 : Int).toNat uu, x8, x9 + 1)
theorem A_fcop_0 : ∀ (rest : List (SEn)) (out : List (SEn)) (x8 : Int) (x9 : Nat) (hd : out.drop x9 = rest) (hn : x8 = ((out.length : Nat) : Int)) (hl : out.length ≤ 1099511627776), Rns (fun f => L_fcop_0 f (out, x8, ((x9 : Nat) : Int))) (P_fcop_0 rest (out, x8, x9)) (F_fcop_0 rest (out, x8, x9))
  | [], out, x8, x9, hd, hn, hl => ev_step (T := fun f => some out) (fun f => (L_fcop_0_eq f _ _ _).trans (by simp only [ge_decn hn (drop_ge hd), ge0, Bool.and_self, Bool.true_and, cond_true, cond_false, List.length_set] <;> rfl)) ev_some
  | uu :: rest, out, x8, x9, hd, hn, hl => ev_step (T := fun f => bif len40n uu.2.2.2.2.2.1 then L_fcop_0 f (out.set (↑x9 : Int).toNat uu, x8, (↑(x9 + 1) : Int)) else none) (fun f => (L_fcop_0_eq f _ _ _).trans (by simp only [lt_decn hn (drop_lt hd), lt_dec (drop_lt hd), drop_get hd, wrap_succ (drop_lt hd) hl, getD_set (drop_lt hd), ge0, Bool.and_self, Bool.true_and, cond_true, cond_false, List.length_set] <;> rfl)) (ev_chk (A_fcop_0 rest _ _ _ (by first | exact drop_succ hd | exact drop_set hd | exact drop_setS (drop_set hd)) (by first | exact hn | simpa using hn) (by first | exact hl | simpa using hl)))
noncomputable def F_fcop : (List (SEn)) → (List (SEn))
  | l => F_fcop_0 l (l, (↑l.length : Int), 0)
noncomputable def P_fcop : (List (SEn)) → Bool
  | l => len36n l && (decide (l.length ≤ 1099511627776) && P_fcop_0 l (l, (↑l.length : Int), 0))
theorem fcop_auto : ∀ a : (List (SEn)), Rns (fun f => M_fcop f a) (P_fcop a) (F_fcop a)
  | l => ev_step (fun f => M_fcop_eq f _) (ev_chk (ev_and fun hh => A_fcop_0 _ _ _ _ rfl (by first | rfl | simp) (of_decide_eq_true hh)))
theorem fcop_0 : ∀ (r p : List SEn) (x8 : Int), (∀ e ∈ r, len40n e.2.2.2.2.2.1 = true) → F_fcop_0 r (p ++ r, x8, p.length) = p ++ r ∧ P_fcop_0 r (p ++ r, x8, p.length) = true
  | [], p, x8, h => ⟨by simp [F_fcop_0], rfl⟩
  | u :: r, p, x8, h => by
    obtain ⟨i1, i2⟩ := fcop_0 r (p ++ [u]) x8 (fun e he => h e (List.mem_cons_of_mem _ he))
    have hs : (p ++ u :: r).set (Int.toNat ((p.length : Nat) : Int)) u = p ++ [u] ++ r := by rw [Int.toNat_natCast]; simp
    rw [show (p ++ [u]).length = p.length + 1 by simp] at i1 i2
    simp only [F_fcop_0, P_fcop_0, hs, i1, i2, h u (List.mem_cons_self ..), Bool.and_self, and_true]
    simp
theorem fcop_P : ∀ a, okF a = true → P_fcop a = true := fun a h => by
  have := (fcop_0 a [] ((a.length : Nat) : Int) (fun e he => okE_mem (okF_E h) he)).2
  simp only [List.nil_append, List.length_nil] at this
  simp only [P_fcop, this, Bool.and_true, Bool.and_eq_true]; exact ⟨(Bool.and_eq_true_iff.1 h).1, decide_eq_true (okE_len (okF_E h))⟩
theorem fcop_F : ∀ a, okF a = true → F_fcop a = a := fun a h => by
  have := (fcop_0 a [] ((a.length : Nat) : Int) (fun e he => okE_mem (okF_E h) he)).1
  simpa only [F_fcop, List.nil_append, List.length_nil] using this
theorem fcop_run : ∀ a, (okF : (List (SEn)) → Bool) a = true → ∃ f, M_fcop f a = some ((fun a => a : (List (SEn)) → (List (SEn))) a) := fun a h => by have h1 := fcop_auto a (fcop_P a h); rw [fcop_F a h] at h1; exact h1
noncomputable def E_fcop : Ent := ⟨67, [.rd tSEn], [.o 32 13 tSEn], fun a => (okF : (List (SEn)) → Bool) a, fun a => (fun a => a : (List (SEn)) → (List (SEn))) a⟩
theorem E_fcop_ok : E_fcop.Ok Try.prog := fun a hp vs hv => (fcop_run a hp).elim fun f h => fnX_ok (C := C_fcop) (Lt := Lt_fcop) (fn := Try.f67) (rs := [.tmp 2]) [.rd tSEn] [.o 32 13 tSEn] mixed es_fcop Try.func67 rfl rfl rfl (by kernel_rfl) (by kernel_rfl) f h vs hv
def fndR (k : Int) : Int × Bool := bif decide (k ≥ 0) then (k, true) else (0, false)
noncomputable def C_ffnd : Cfg := ⟨Try.prog, [], pmT [], 22, []⟩
theorem es_ffnd : EsOk Try.prog [] [] := es_nil
def Lt_ffnd : Nat → LD := ldT [(0, ⟨[.box 3 3 25 3 tSId, .rd 8 tSEn, .c 9 (.int .i64), .c 10 (.int .i64)], []⟩)]
noncomputable def M_ffnd (f : Nat) (a : (List (SEn)) × SId) : Option (Int × Bool) := (runX (C_ffnd) Lt_ffnd (Kret Try.prog [.tmp 4, .tmp 5] [.v (.int .i64), .v (.bool)]) f [.code (bodyOf Try.f28)] (initX [.rd tSEn, .g tSId] a) : Option (ResT [.v (.int .i64), .v (.bool)]))
noncomputable def L_ffnd_0 (f : Nat) (x : SId × (List (SEn)) × Int × Int) : Option (Int × Bool) := (runX (C_ffnd) Lt_ffnd (Kret Try.prog [.tmp 4, .tmp 5] [.v (.int .i64), .v (.bool)]) f (headOf Try.f28 0) ((Lt_ffnd 0).mk' x) : Option (ResT [.v (.int .i64), .v (.bool)]))
theorem M_ffnd_eq (f : Nat) (l : List (SEn)) (id : SId) : M_ffnd (f + 1) (l, id) =
    L_ffnd_0 f (id, l, (↑l.length : Int), 0) := by kernel_rfl
theorem L_ffnd_0_eq (f : Nat) (id : SId) (x8 : List (SEn)) (x9 : Int) (x10 : Int) : L_ffnd_0 (f + 1) (id, x8, x9, x10) =
    bif decide (x10 < x9) then bif decide (0 ≤ x10) && decide (x10 < (↑x8.length : Int)) then bif (x8.getD x10.toNat (0, 0, 0, 0, 0, [], 0, 0, 0, 0, 0, 0, false)).2.2.1 == id.1 && ((x8.getD x10.toNat (0, 0, 0, 0, 0, [], 0, 0, 0, 0, 0, 0, false)).2.2.2.1 == id.2.1 && ((x8.getD x10.toNat (0, 0, 0, 0, 0, [], 0, 0, 0, 0, 0, 0, false)).2.2.2.2.1 == id.2.2 && true)) then some (x10, true) else L_ffnd_0 f (id, x8, x9, IntKind.i64.wrap (x10 + 1)) else none else some (0, false) := by kernel_rfl
noncomputable def F_ffnd_0 : List (SEn) → (SId × (List (SEn)) × Int × Nat) → Int × Bool
  | [], (id, x8, x9, x10) => (0, false)
  | uu :: rest, (id, x8, x9, x10) => bif uu.2.2.1 == id.1 && (uu.2.2.2.1 == id.2.1 && (uu.2.2.2.2.1 == id.2.2 && true)) then ((↑x10 : Int), true) else F_ffnd_0 rest (id, x8, x9, x10 + 1)
noncomputable def P_ffnd_0 : List (SEn) → (SId × (List (SEn)) × Int × Nat) → Bool
  | [], (id, x8, x9, x10) => true
  | uu :: rest, (id, x8, x9, x10) => bif uu.2.2.1 == id.1 && (uu.2.2.2.1 == id.2.1 && (uu.2.2.2.2.1 == id.2.2 && true)) then true else P_ffnd_0 rest (id, x8, x9, x10 + 1)
theorem A_ffnd_0 : ∀ (rest : List (SEn)) (id : SId) (x8 : List (SEn)) (x9 : Int) (x10 : Nat) (hd : x8.drop x10 = rest) (hn : x9 = ((x8.length : Nat) : Int)) (hl : x8.length ≤ 1099511627776), Rns (fun f => L_ffnd_0 f (id, x8, x9, ((x10 : Nat) : Int))) (P_ffnd_0 rest (id, x8, x9, x10)) (F_ffnd_0 rest (id, x8, x9, x10))
  | [], id, x8, x9, x10, hd, hn, hl => ev_step (T := fun f => some (0, false)) (fun f => (L_ffnd_0_eq f _ _ _ _).trans (by simp only [ge_decn hn (drop_ge hd), ge0, Bool.and_self, Bool.true_and, cond_true, cond_false, List.length_set] <;> rfl)) ev_some
  | uu :: rest, id, x8, x9, x10, hd, hn, hl => ev_step (T := fun f => bif uu.2.2.1 == id.1 && (uu.2.2.2.1 == id.2.1 && (uu.2.2.2.2.1 == id.2.2 && true)) then some ((↑x10 : Int), true) else L_ffnd_0 f (id, x8, x9, (↑(x10 + 1) : Int))) (fun f => (L_ffnd_0_eq f _ _ _ _).trans (by simp only [lt_decn hn (drop_lt hd), lt_dec (drop_lt hd), drop_get hd, wrap_succ (drop_lt hd) hl, getD_set (drop_lt hd), ge0, Bool.and_self, Bool.true_and, cond_true, cond_false, List.length_set] <;> rfl)) (ev_bif ev_some (A_ffnd_0 rest _ _ _ _ (by first | exact drop_succ hd | exact drop_set hd | exact drop_setS (drop_set hd)) (by first | exact hn | simpa using hn) (by first | exact hl | simpa using hl)))
noncomputable def F_ffnd : ((List (SEn)) × SId) → Int × Bool
  | (l, id) => F_ffnd_0 l (id, l, (↑l.length : Int), 0)
noncomputable def P_ffnd : ((List (SEn)) × SId) → Bool
  | (l, id) => decide (l.length ≤ 1099511627776) && P_ffnd_0 l (id, l, (↑l.length : Int), 0)
theorem ffnd_auto : ∀ a : (List (SEn)) × SId, Rns (fun f => M_ffnd f a) (P_ffnd a) (F_ffnd a)
  | (l, id) => ev_step (fun f => M_ffnd_eq f _ _) (ev_and fun hh => A_ffnd_0 _ _ _ _ _ rfl (by first | rfl | simp) (of_decide_eq_true hh))
theorem ffnd_0 (l : List SEn) (id : SId) (x : Int) : ∀ (r : List SEn) (k : Nat), F_ffnd_0 r (id, l, x, k) = fndR (findI (fun e => decide (eid e = id)) r k) ∧ P_ffnd_0 r (id, l, x, k) = true
  | [], k => ⟨rfl, rfl⟩
  | u :: r, k => by
    obtain ⟨i1, i2⟩ := ffnd_0 l id x r (k + 1)
    simp only [F_ffnd_0, P_ffnd_0, findI, eid_eq, i1, i2]
    cases decide (eid u = id)
    · exact ⟨rfl, rfl⟩
    · exact ⟨by simp [fndR], rfl⟩
theorem ffnd_P : ∀ a : List SEn × SId, len40n a.1 = true → P_ffnd a = true := fun a h => by simp only [P_ffnd, (ffnd_0 _ _ _ _ _).2, Bool.and_true]; exact h
theorem ffnd_F : ∀ a : List SEn × SId, len40n a.1 = true → F_ffnd a = fndR (findE a.1 a.2) := fun a h => by simp only [F_ffnd, (ffnd_0 _ _ _ _ _).1]; rfl
theorem ffnd_run : ∀ a, (fun a => len40n a.1 : (List (SEn)) × SId → Bool) a = true → ∃ f, M_ffnd f a = some ((fun a => fndR (findE a.1 a.2) : (List (SEn)) × SId → Int × Bool) a) := fun a h => by have h1 := ffnd_auto a (ffnd_P a h); rw [ffnd_F a h] at h1; exact h1
noncomputable def E_ffnd : Ent := ⟨28, [.rd tSEn, .g tSId], [.v (.int .i64), .v (.bool)], fun a => (fun a => len40n a.1 : (List (SEn)) × SId → Bool) a, fun a => (fun a => fndR (findE a.1 a.2) : (List (SEn)) × SId → Int × Bool) a⟩
theorem E_ffnd_ok : E_ffnd.Ok Try.prog := fun a hp vs hv => (ffnd_run a hp).elim fun f h => fnX_ok (C := C_ffnd) (Lt := Lt_ffnd) (fn := Try.f28) (rs := [.tmp 4, .tmp 5]) [.rd tSEn, .g tSId] [.v (.int .i64), .v (.bool)] mixed es_ffnd Try.func28 rfl rfl rfl (by kernel_rfl) (by kernel_rfl) f h vs hv
noncomputable def C_fat : Cfg := ⟨Try.prog, [], pmT [], 29, []⟩
theorem es_fat : EsOk Try.prog [] [] := es_nil
def Lt_fat : Nat → LD := ldT [(0, ⟨[.c 1 (.int .i64), .c 2 (.int .i64), .rd 10 tSEn, .c 11 (.int .i64), .c 12 (.int .i64)], []⟩)]
noncomputable def M_fat (f : Nat) (a : (List (SEn)) × Int × Int) : Option (Int × Bool) := (runX (C_fat) Lt_fat (Kret Try.prog [.tmp 6, .tmp 7] [.v (.int .i64), .v (.bool)]) f [.code (bodyOf Try.f29)] (initX [.rd tSEn, .c (.int .i64), .c (.int .i64)] a) : Option (ResT [.v (.int .i64), .v (.bool)]))
noncomputable def L_fat_0 (f : Nat) (x : Int × Int × (List (SEn)) × Int × Int) : Option (Int × Bool) := (runX (C_fat) Lt_fat (Kret Try.prog [.tmp 6, .tmp 7] [.v (.int .i64), .v (.bool)]) f (headOf Try.f29 0) ((Lt_fat 0).mk' x) : Option (ResT [.v (.int .i64), .v (.bool)]))
theorem M_fat_eq (f : Nat) (l : List (SEn)) (core : Int) (slot : Int) : M_fat (f + 1) (l, core, slot) =
    L_fat_0 f (core, slot, l, (↑l.length : Int), 0) := by kernel_rfl
theorem L_fat_0_eq (f : Nat) (core : Int) (slot : Int) (x10 : List (SEn)) (x11 : Int) (x12 : Int) : L_fat_0 (f + 1) (core, slot, x10, x11, x12) =
    bif decide (x12 < x11) then bif decide (0 ≤ x12) && decide (x12 < (↑x10.length : Int)) then bif (x10.getD x12.toNat (0, 0, 0, 0, 0, [], 0, 0, 0, 0, 0, 0, false)).1 == core then bif (x10.getD x12.toNat (0, 0, 0, 0, 0, [], 0, 0, 0, 0, 0, 0, false)).2.1 == slot then some (x12, true) else L_fat_0 f (core, slot, x10, x11, IntKind.i64.wrap (x12 + 1)) else L_fat_0 f (core, slot, x10, x11, IntKind.i64.wrap (x12 + 1)) else none else some (0, false) := by kernel_rfl
noncomputable def F_fat_0 : List (SEn) → (Int × Int × (List (SEn)) × Int × Nat) → Int × Bool
  | [], (core, slot, x10, x11, x12) => (0, false)
  | uu :: rest, (core, slot, x10, x11, x12) => bif uu.1 == core then bif uu.2.1 == slot then ((↑x12 : Int), true) else F_fat_0 rest (core, slot, x10, x11, x12 + 1) else F_fat_0 rest (core, slot, x10, x11, x12 + 1)
noncomputable def P_fat_0 : List (SEn) → (Int × Int × (List (SEn)) × Int × Nat) → Bool
  | [], (core, slot, x10, x11, x12) => true
  | uu :: rest, (core, slot, x10, x11, x12) => bif uu.1 == core then bif uu.2.1 == slot then true else P_fat_0 rest (core, slot, x10, x11, x12 + 1) else P_fat_0 rest (core, slot, x10, x11, x12 + 1)
theorem A_fat_0 : ∀ (rest : List (SEn)) (core : Int) (slot : Int) (x10 : List (SEn)) (x11 : Int) (x12 : Nat) (hd : x10.drop x12 = rest) (hn : x11 = ((x10.length : Nat) : Int)) (hl : x10.length ≤ 1099511627776), Rns (fun f => L_fat_0 f (core, slot, x10, x11, ((x12 : Nat) : Int))) (P_fat_0 rest (core, slot, x10, x11, x12)) (F_fat_0 rest (core, slot, x10, x11, x12))
  | [], core, slot, x10, x11, x12, hd, hn, hl => ev_step (T := fun f => some (0, false)) (fun f => (L_fat_0_eq f _ _ _ _ _).trans (by simp only [ge_decn hn (drop_ge hd), ge0, Bool.and_self, Bool.true_and, cond_true, cond_false, List.length_set] <;> rfl)) ev_some
  | uu :: rest, core, slot, x10, x11, x12, hd, hn, hl => ev_step (T := fun f => bif uu.1 == core then bif uu.2.1 == slot then some ((↑x12 : Int), true) else L_fat_0 f (core, slot, x10, x11, (↑(x12 + 1) : Int)) else L_fat_0 f (core, slot, x10, x11, (↑(x12 + 1) : Int))) (fun f => (L_fat_0_eq f _ _ _ _ _).trans (by simp only [lt_decn hn (drop_lt hd), lt_dec (drop_lt hd), drop_get hd, wrap_succ (drop_lt hd) hl, getD_set (drop_lt hd), ge0, Bool.and_self, Bool.true_and, cond_true, cond_false, List.length_set] <;> rfl)) (ev_bif (ev_bif ev_some (A_fat_0 rest _ _ _ _ _ (by first | exact drop_succ hd | exact drop_set hd | exact drop_setS (drop_set hd)) (by first | exact hn | simpa using hn) (by first | exact hl | simpa using hl))) (A_fat_0 rest _ _ _ _ _ (by first | exact drop_succ hd | exact drop_set hd | exact drop_setS (drop_set hd)) (by first | exact hn | simpa using hn) (by first | exact hl | simpa using hl)))
noncomputable def F_fat : ((List (SEn)) × Int × Int) → Int × Bool
  | (l, core, slot) => F_fat_0 l (core, slot, l, (↑l.length : Int), 0)
noncomputable def P_fat : ((List (SEn)) × Int × Int) → Bool
  | (l, core, slot) => decide (l.length ≤ 1099511627776) && P_fat_0 l (core, slot, l, (↑l.length : Int), 0)
theorem fat_auto : ∀ a : (List (SEn)) × Int × Int, Rns (fun f => M_fat f a) (P_fat a) (F_fat a)
  | (l, core, slot) => ev_step (fun f => M_fat_eq f _ _ _) (ev_and fun hh => A_fat_0 _ _ _ _ _ _ rfl (by first | rfl | simp) (of_decide_eq_true hh))
theorem fat_0 (l : List SEn) (c s x : Int) : ∀ (r : List SEn) (k : Nat), F_fat_0 r (c, s, l, x, k) = fndR (findI (fun e => decide (e.1 = c) && decide (e.2.1 = s)) r k) ∧ P_fat_0 r (c, s, l, x, k) = true
  | [], k => ⟨rfl, rfl⟩
  | u :: r, k => by
    obtain ⟨i1, i2⟩ := fat_0 l c s x r (k + 1)
    simp only [F_fat_0, P_fat_0, findI, beqI, i1, i2]
    cases decide (u.1 = c)
    · exact ⟨rfl, rfl⟩
    · cases decide (u.2.1 = s)
      · exact ⟨rfl, rfl⟩
      · exact ⟨by simp [fndR], rfl⟩
theorem fat_P : ∀ a : List SEn × Int × Int, len40n a.1 = true → P_fat a = true := fun a h => by simp only [P_fat, (fat_0 _ _ _ _ _ _).2, Bool.and_true]; exact h
theorem fat_F : ∀ a : List SEn × Int × Int, len40n a.1 = true → F_fat a = fndR (atE a.1 a.2.1 a.2.2) := fun a h => by simp only [F_fat, (fat_0 _ _ _ _ _ _).1]; rfl
theorem fat_run : ∀ a, (fun a => len40n a.1 : (List (SEn)) × Int × Int → Bool) a = true → ∃ f, M_fat f a = some ((fun a => fndR (atE a.1 a.2.1 a.2.2) : (List (SEn)) × Int × Int → Int × Bool) a) := fun a h => by have h1 := fat_auto a (fat_P a h); rw [fat_F a h] at h1; exact h1
noncomputable def E_fat : Ent := ⟨29, [.rd tSEn, .c (.int .i64), .c (.int .i64)], [.v (.int .i64), .v (.bool)], fun a => (fun a => len40n a.1 : (List (SEn)) × Int × Int → Bool) a, fun a => (fun a => fndR (atE a.1 a.2.1 a.2.2) : (List (SEn)) × Int × Int → Int × Bool) a⟩
theorem E_fat_ok : E_fat.Ok Try.prog := fun a hp vs hv => (fat_run a hp).elim fun f h => fnX_ok (C := C_fat) (Lt := Lt_fat) (fn := Try.f29) (rs := [.tmp 6, .tmp 7]) [.rd tSEn, .c (.int .i64), .c (.int .i64)] [.v (.int .i64), .v (.bool)] mixed es_fat Try.func29 rfl rfl rfl (by kernel_rfl) (by kernel_rfl) f h vs hv
noncomputable def C_below : Cfg := ⟨Try.prog, [E_scon], pmT [], 9, []⟩
theorem es_below : EsOk Try.prog [E_scon] [] := es_cons E_scon_ok (es_nil)
def Lt_below : Nat → LD := ldT []
noncomputable def M_below (f : Nat) (a : SNd × SId) : Option (Bool) := (runX (C_below) Lt_below (Kret Try.prog [.tmp 4] [.v (.bool)]) f [.code (bodyOf Try.f77)] (initX [.g tSNd, .g tSId] a) : Option (ResT [.v (.bool)]))
theorem M_below_eq (f : Nat) (n : SNd) (id : SId) : M_below (f + 1) (n, id) =
    bif len40n n.2.2.2.1 then some (memD id n.2.2.2.1) else none := by kernel_rfl
noncomputable def F_below : (SNd × SId) → Bool
  | (n, id) => memD id n.2.2.2.1
noncomputable def P_below : (SNd × SId) → Bool
  | (n, id) => len40n n.2.2.2.1
theorem below_auto : ∀ a : SNd × SId, Rns (fun f => M_below f a) (P_below a) (F_below a)
  | (n, id) => ev_step (fun f => M_below_eq f _ _) (ev_chk1 ev_some)
theorem below_P : ∀ a : SNd × SId, len40n (npath a.1) = true → P_below a = true := fun a h => h
theorem below_F : ∀ a : SNd × SId, len40n (npath a.1) = true → F_below a = memD a.2 (npath a.1) := fun _ _ => rfl
theorem below_run : ∀ a, (fun a => len40n (npath a.1) : SNd × SId → Bool) a = true → ∃ f, M_below f a = some ((fun a => memD a.2 (npath a.1) : SNd × SId → Bool) a) := fun a h => by have h1 := below_auto a (below_P a h); rw [below_F a h] at h1; exact h1
noncomputable def E_below : Ent := ⟨77, [.g tSNd, .g tSId], [.v (.bool)], fun a => (fun a => len40n (npath a.1) : SNd × SId → Bool) a, fun a => (fun a => memD a.2 (npath a.1) : SNd × SId → Bool) a⟩
theorem E_below_ok : E_below.Ok Try.prog := fun a hp vs hv => (below_run a hp).elim fun f h => fnX_ok (C := C_below) (Lt := Lt_below) (fn := Try.f77) (rs := [.tmp 4]) [.g tSNd, .g tSId] [.v (.bool)] mixed es_below Try.func77 rfl rfl rfl (by kernel_rfl) (by kernel_rfl) f h vs hv
def desS (l : List SEn) (id : SId) : List SId := (l.filter fun e => memD id (epath e)).map eid
noncomputable def C_rdes : Cfg := ⟨Try.prog, [E_hasId], pmT [(5, ([(0, []), (1, []), (2, []), (3, []), (4, []), (5, []), (6, []), (7, [])], [(13, 20)]))], 31, []⟩
theorem es_rdes : EsOk Try.prog [E_hasId] [] := es_cons E_hasId_ok (es_nil)
def Lt_rdes : Nat → LD := ldT [(0, ⟨[.rd 0 tSEn, .box 3 3 25 3 tSId, .list 5 999 25 3 tSId, .c 6 (.int .i64)], []⟩)]
noncomputable def M_rdes (f : Nat) (a : (List (SEn)) × SId) : Option ((List (SId))) := (runX (C_rdes) Lt_rdes (Kret Try.prog [.tmp 4] [.o 25 3 tSId]) f [.code (bodyOf Try.f41)] (initX [.rd tSEn, .g tSId] a) : Option (ResT [.o 25 3 tSId]))
noncomputable def L_rdes_0 (f : Nat) (x : (List (SEn)) × SId × (List (SId)) × Int) : Option ((List (SId))) := (runX (C_rdes) Lt_rdes (Kret Try.prog [.tmp 4] [.o 25 3 tSId]) f (headOf Try.f41 0) ((Lt_rdes 0).mk' x) : Option (ResT [.o 25 3 tSId]))
theorem M_rdes_eq (f : Nat) (l : List (SEn)) (id : SId) : M_rdes (f + 1) (l, id) =
    L_rdes_0 f (l, id, [], 0) := by kernel_rfl
theorem L_rdes_0_eq (f : Nat) (l : List (SEn)) (id : SId) (out : List (SId)) (i : Int) : L_rdes_0 (f + 1) (l, id, out, i) =
    bif decide (i < (↑l.length : Int)) then bif decide (0 ≤ i) && decide (i < (↑l.length : Int)) then bif len40n (l.getD i.toNat (0, 0, 0, 0, 0, [], 0, 0, 0, 0, 0, 0, false)).2.2.2.2.2.1 then bif memD id (l.getD i.toNat (0, 0, 0, 0, 0, [], 0, 0, 0, 0, 0, 0, false)).2.2.2.2.2.1 then bif decide (0 ≤ i) && decide (i < (↑l.length : Int)) then bif decide ((out.length + [((l.getD i.toNat (0, 0, 0, 0, 0, [], 0, 0, 0, 0, 0, 0, false)).2.2.1, (l.getD i.toNat (0, 0, 0, 0, 0, [], 0, 0, 0, 0, 0, 0, false)).2.2.2.1, (l.getD i.toNat (0, 0, 0, 0, 0, [], 0, 0, 0, 0, 0, 0, false)).2.2.2.2.1)].length) * 24 ≤ 140737488355328) then L_rdes_0 f (l, id, out ++ [((l.getD i.toNat (0, 0, 0, 0, 0, [], 0, 0, 0, 0, 0, 0, false)).2.2.1, (l.getD i.toNat (0, 0, 0, 0, 0, [], 0, 0, 0, 0, 0, 0, false)).2.2.2.1, (l.getD i.toNat (0, 0, 0, 0, 0, [], 0, 0, 0, 0, 0, 0, false)).2.2.2.2.1)], IntKind.i64.wrap (i + 1)) else none else none else L_rdes_0 f (l, id, out, IntKind.i64.wrap (i + 1)) else none else none else some out := by kernel_rfl
noncomputable def F_rdes_0 : List (SEn) → ((List (SEn)) × SId × (List (SId)) × Nat) → (List (SId))
  | [], (l, id, out, i) => out
  | uu :: rest, (l, id, out, i) => bif memD id uu.2.2.2.2.2.1 then F_rdes_0 rest (l, id, out ++ [(uu.2.2.1, uu.2.2.2.1, uu.2.2.2.2.1)], i + 1) else F_rdes_0 rest (l, id, out, i + 1)
noncomputable def P_rdes_0 : List (SEn) → ((List (SEn)) × SId × (List (SId)) × Nat) → Bool
  | [], (l, id, out, i) => true
  | uu :: rest, (l, id, out, i) => len40n uu.2.2.2.2.2.1 && bif memD id uu.2.2.2.2.2.1 then decide ((out.length + [(uu.2.2.1, uu.2.2.2.1, uu.2.2.2.2.1)].length) * 24 ≤ 140737488355328) && P_rdes_0 rest (l, id, out ++ [(uu.2.2.1, uu.2.2.2.1, uu.2.2.2.2.1)], i + 1) else P_rdes_0 rest (l, id, out, i + 1)
theorem A_rdes_0 : ∀ (rest : List (SEn)) (l : List (SEn)) (id : SId) (out : List (SId)) (i : Nat) (hd : l.drop i = rest) (hl : l.length ≤ 1099511627776), Rns (fun f => L_rdes_0 f (l, id, out, ((i : Nat) : Int))) (P_rdes_0 rest (l, id, out, i)) (F_rdes_0 rest (l, id, out, i))
  | [], l, id, out, i, hd, hl => ev_step (T := fun f => some out) (fun f => (L_rdes_0_eq f _ _ _ _).trans (by simp only [ge_dec (drop_ge hd), ge0, Bool.and_self, Bool.true_and, cond_true, cond_false, List.length_set] <;> rfl)) ev_some
  | uu :: rest, l, id, out, i, hd, hl => ev_step (T := fun f => bif len40n uu.2.2.2.2.2.1 then bif memD id uu.2.2.2.2.2.1 then bif decide ((out.length + [(uu.2.2.1, uu.2.2.2.1, uu.2.2.2.2.1)].length) * 24 ≤ 140737488355328) then L_rdes_0 f (l, id, out ++ [(uu.2.2.1, uu.2.2.2.1, uu.2.2.2.2.1)], (↑(i + 1) : Int)) else none else L_rdes_0 f (l, id, out, (↑(i + 1) : Int)) else none) (fun f => (L_rdes_0_eq f _ _ _ _).trans (by simp only [lt_dec (drop_lt hd), drop_get hd, wrap_succ (drop_lt hd) hl, getD_set (drop_lt hd), ge0, Bool.and_self, Bool.true_and, cond_true, cond_false, List.length_set] <;> rfl)) (ev_chk (ev_bif (ev_chk (A_rdes_0 rest _ _ _ _ (by first | exact drop_succ hd | exact drop_set hd | exact drop_setS (drop_set hd)) (by first | exact hl | simpa using hl))) (A_rdes_0 rest _ _ _ _ (by first | exact drop_succ hd | exact drop_set hd | exact drop_setS (drop_set hd)) (by first | exact hl | simpa using hl))))
noncomputable def F_rdes : ((List (SEn)) × SId) → (List (SId))
  | (l, id) => F_rdes_0 l (l, id, [], 0)
noncomputable def P_rdes : ((List (SEn)) × SId) → Bool
  | (l, id) => decide (l.length ≤ 1099511627776) && P_rdes_0 l (l, id, [], 0)
theorem rdes_auto : ∀ a : (List (SEn)) × SId, Rns (fun f => M_rdes f a) (P_rdes a) (F_rdes a)
  | (l, id) => ev_step (fun f => M_rdes_eq f _ _) (ev_and fun hh => A_rdes_0 _ _ _ _ _ rfl (of_decide_eq_true hh))
theorem rdes_0 (l : List SEn) (id : SId) : ∀ (r : List SEn) (out : List SId) (k : Nat), (∀ e ∈ r, len40n e.2.2.2.2.2.1 = true) → out.length + r.length ≤ 1099511627776 → F_rdes_0 r (l, id, out, k) = out ++ desS r id ∧ P_rdes_0 r (l, id, out, k) = true
  | [], out, k, h, hl => ⟨by simp [F_rdes_0, desS], rfl⟩
  | u :: r, out, k, h, hl => by
    simp only [List.length_cons] at hl
    obtain ⟨i1, i2⟩ := rdes_0 l id r (out ++ [eid u]) (k + 1) (fun e he => h e (List.mem_cons_of_mem _ he)) (by simp; omega)
    obtain ⟨j1, j2⟩ := rdes_0 l id r out (k + 1) (fun e he => h e (List.mem_cons_of_mem _ he)) (by omega)
    have e1 : memD id u.2.2.2.2.2.1 = memD id (epath u) := rfl
    have e2 : ((u.2.2.1, u.2.2.2.1, u.2.2.2.2.1) : SId) = eid u := rfl
    simp only [F_rdes_0, P_rdes_0, e1, e2, i1, i2, j1, j2, h u (List.mem_cons_self ..), Bool.true_and, desS, List.filter_cons]
    cases memD id (epath u)
    · exact ⟨rfl, rfl⟩
    · simp only [cond_true, if_true, List.map_cons, List.append_assoc, List.singleton_append, Bool.and_true, decide_eq_true_eq, true_and]
      simp only [List.length_singleton]; omega
theorem rdes_P : ∀ a : List SEn × SId, okE a.1 = true → P_rdes a = true := fun a h => by
  simp only [P_rdes, (rdes_0 a.1 a.2 a.1 [] 0 (fun e he => okE_mem h he) (by simpa using okE_len h)).2, Bool.and_true]; exact decide_eq_true (okE_len h)
theorem rdes_F : ∀ a : List SEn × SId, okE a.1 = true → F_rdes a = desS a.1 a.2 := fun a h => by
  simp only [F_rdes, (rdes_0 a.1 a.2 a.1 [] 0 (fun e he => okE_mem h he) (by simpa using okE_len h)).1, List.nil_append]
theorem rdes_run : ∀ a, (fun a => okE a.1 : (List (SEn)) × SId → Bool) a = true → ∃ f, M_rdes f a = some ((fun a => desS a.1 a.2 : (List (SEn)) × SId → (List (SId))) a) := fun a h => by have h1 := rdes_auto a (rdes_P a h); rw [rdes_F a h] at h1; exact h1
noncomputable def E_rdes : Ent := ⟨41, [.rd tSEn, .g tSId], [.o 25 3 tSId], fun a => (fun a => okE a.1 : (List (SEn)) × SId → Bool) a, fun a => (fun a => desS a.1 a.2 : (List (SEn)) × SId → (List (SId))) a⟩
theorem E_rdes_ok : E_rdes.Ok Try.prog := fun a hp vs hv => (rdes_run a hp).elim fun f h => fnX_ok (C := C_rdes) (Lt := Lt_rdes) (fn := Try.f41) (rs := [.tmp 4]) [.rd tSEn, .g tSId] [.o 25 3 tSId] mixed es_rdes Try.func41 rfl rfl rfl (by kernel_rfl) (by kernel_rfl) f h vs hv
def remS (a : List SEn × SId) : List SEn × Bool := bif decide (findE a.1 a.2 ≥ 0) then (a.1.take (findE a.1 a.2).toNat ++ a.1.drop ((findE a.1 a.2).toNat + 1), true) else ([], false)
theorem findE_lt (l : List SEn) (id : SId) : findE l id < l.length := by have := findI_lt (fun e : SEn => decide (eid e = id)) l 0 (by omega); unfold findE; omega
noncomputable def C_rrem : Cfg := ⟨Try.prog, [E_rfent, E_rcent], pmT [(4, ([(0, []), (1, []), (2, []), (4, []), (5, []), (6, []), (7, []), (3, []), (8, []), (9, []), (10, []), (11, [])], [(4, 5), (12, 21)]))], 22, []⟩
theorem es_rrem : EsOk Try.prog [E_rfent, E_rcent] [] := es_cons E_rfent_ok (es_cons E_rcent_ok (es_nil))
def Lt_rrem : Nat → LD := ldT []
noncomputable def M_rrem (f : Nat) (a : (List (SEn)) × SId) : Option ((List (SEn)) × Bool) := (runX (C_rrem) Lt_rrem (Kret Try.prog [.tmp 4, .tmp 5] [.o 32 13 tSEn, .v (.bool)]) f [.code (bodyOf Try.f43)] (initX [.rd tSEn, .g tSId] a) : Option (ResT [.o 32 13 tSEn, .v (.bool)]))
theorem M_rrem_eq (f : Nat) (l : List (SEn)) (id : SId) : M_rrem (f + 1) (l, id) =
    bif len40n l then bif decide (findE l id < 0) then some ([], false) else bif decide (0 ≤ findE l id) && decide (findE l id ≤ (↑l.length : Int)) then bif decide (0 ≤ IntKind.i64.wrap (findE l id + 1)) && decide (IntKind.i64.wrap (findE l id + 1) ≤ (↑l.length : Int)) then bif okE (List.take (findE l id).toNat l) then bif okE (List.drop (IntKind.i64.wrap (findE l id + 1)).toNat l) then bif decide (((List.take (findE l id).toNat l).length + (List.drop (IntKind.i64.wrap (findE l id + 1)).toNat l).length) * 120 ≤ 140737488355328) then some (List.take (findE l id).toNat l ++ List.drop (IntKind.i64.wrap (findE l id + 1)).toNat l, true) else none else none else none else none else none else none := by kernel_rfl
noncomputable def F_rrem : ((List (SEn)) × SId) → (List (SEn)) × Bool
  | (l, id) => bif decide (findE l id < 0) then ([], false) else (List.take (findE l id).toNat l ++ List.drop (IntKind.i64.wrap (findE l id + 1)).toNat l, true)
noncomputable def P_rrem : ((List (SEn)) × SId) → Bool
  | (l, id) => len40n l && bif decide (findE l id < 0) then true else decide (0 ≤ findE l id) && decide (findE l id ≤ (↑l.length : Int)) && (decide (0 ≤ IntKind.i64.wrap (findE l id + 1)) && decide (IntKind.i64.wrap (findE l id + 1) ≤ (↑l.length : Int)) && (okE (List.take (findE l id).toNat l) && (okE (List.drop (IntKind.i64.wrap (findE l id + 1)).toNat l) && decide (((List.take (findE l id).toNat l).length + (List.drop (IntKind.i64.wrap (findE l id + 1)).toNat l).length) * 120 ≤ 140737488355328))))
theorem rrem_auto : ∀ a : (List (SEn)) × SId, Rns (fun f => M_rrem f a) (P_rrem a) (F_rrem a)
  | (l, id) => ev_step (fun f => M_rrem_eq f _ _) (ev_chk (ev_bif ev_some (ev_chk (ev_chk (ev_chk (ev_chk (ev_chk1 ev_some)))))))
theorem rrem_both : ∀ a : List SEn × SId, okE a.1 = true → P_rrem a = true ∧ F_rrem a = remS a := by
  rintro ⟨l, id⟩ h
  have hl : l.length ≤ 1099511627776 := okE_len h
  have h4 : len40n l = true := decide_eq_true hl
  have hlt := findE_lt l id
  simp only [P_rrem, F_rrem, remS, h4, Bool.true_and]
  by_cases h0 : findE l id < 0
  · rw [decide_eq_true h0, show decide (findE l id ≥ 0) = false from decide_eq_false (by omega)]; exact ⟨rfl, rfl⟩
  · have hw : IntKind.i64.wrap (findE l id + 1) = findE l id + 1 := i64_id (by omega) (by omega)
    rw [decide_eq_false h0, show decide (findE l id ≥ 0) = true from decide_eq_true (by omega), hw, show (findE l id + 1).toNat = (findE l id).toNat + 1 by omega]
    simp only [cond_false, cond_true, okE_take h, okE_drop h, Bool.true_and, Bool.and_eq_true, decide_eq_true_eq, and_true, List.length_take, List.length_drop]
    omega
theorem rrem_P : ∀ a : List SEn × SId, okE a.1 = true → P_rrem a = true := fun a h => (rrem_both a h).1
theorem rrem_F : ∀ a : List SEn × SId, okE a.1 = true → F_rrem a = remS a := fun a h => (rrem_both a h).2
theorem rrem_run : ∀ a, (fun a => okE a.1 : (List (SEn)) × SId → Bool) a = true → ∃ f, M_rrem f a = some ((remS : (List (SEn)) × SId → (List (SEn)) × Bool) a) := fun a h => by have h1 := rrem_auto a (rrem_P a h); rw [rrem_F a h] at h1; exact h1
noncomputable def E_rrem : Ent := ⟨43, [.rd tSEn, .g tSId], [.o 32 13 tSEn, .v (.bool)], fun a => (fun a => okE a.1 : (List (SEn)) × SId → Bool) a, fun a => (remS : (List (SEn)) × SId → (List (SEn)) × Bool) a⟩
theorem E_rrem_ok : E_rrem.Ok Try.prog := fun a hp vs hv => (rrem_run a hp).elim fun f h => fnX_ok (C := C_rrem) (Lt := Lt_rrem) (fn := Try.f43) (rs := [.tmp 4, .tmp 5]) [.rd tSEn, .g tSId] [.o 32 13 tSEn, .v (.bool)] mixed es_rrem Try.func43 rfl rfl rfl (by kernel_rfl) (by kernel_rfl) f h vs hv
def sentS (a : List SEn × List SEn) : Bool := decide (a.1 = a.2)
noncomputable def C_sent : Cfg := ⟨Try.prog, [E_snode], pmT [(6, ([(0, []), (1, []), (2, []), (3, []), (4, []), (5, []), (6, []), (7, []), (8, []), (9, []), (10, []), (11, []), (12, []), (13, []), (14, []), (15, []), (16, []), (17, []), (18, []), (19, []), (20, []), (21, []), (22, []), (23, []), (24, []), (25, []), (26, []), (27, []), (28, []), (29, []), (30, []), (31, []), (32, []), (33, []), (34, []), (35, []), (36, []), (37, [])], [(17, 54)]))], 55, []⟩
theorem es_sent : EsOk Try.prog [E_snode] [] := es_cons E_snode_ok (es_nil)
def Lt_sent : Nat → LD := ldT [(0, ⟨[.rd 0 tSEn, .rd 1 tSEn, .c 5 (.int .i64)], []⟩)]
noncomputable def M_sent (f : Nat) (a : (List (SEn)) × (List (SEn))) : Option (Bool) := (runX (C_sent) Lt_sent (Kret Try.prog [.tmp 4] [.v (.bool)]) f [.code (bodyOf Try.f31)] (initX [.rd tSEn, .rd tSEn] a) : Option (ResT [.v (.bool)]))
noncomputable def L_sent_0 (f : Nat) (x : (List (SEn)) × (List (SEn)) × Int) : Option (Bool) := (runX (C_sent) Lt_sent (Kret Try.prog [.tmp 4] [.v (.bool)]) f (headOf Try.f31 0) ((Lt_sent 0).mk' x) : Option (ResT [.v (.bool)]))
theorem M_sent_eq (f : Nat) (a : List (SEn)) (b : List (SEn)) : M_sent (f + 1) (a, b) =
    bif (↑a.length : Int) != (↑b.length : Int) then some false else L_sent_0 f (a, b, 0) := by kernel_rfl
theorem L_sent_0_eq (f : Nat) (a : List (SEn)) (b : List (SEn)) (i : Int) : L_sent_0 (f + 1) (a, b, i) =
    bif decide (i < (↑a.length : Int)) then bif decide (0 ≤ i) && decide (i < (↑a.length : Int)) then bif decide (0 ≤ i) && decide (i < (↑b.length : Int)) then bif (a.getD i.toNat (0, 0, 0, 0, 0, [], 0, 0, 0, 0, 0, 0, false)).1 != (b.getD i.toNat (0, 0, 0, 0, 0, [], 0, 0, 0, 0, 0, 0, false)).1 then some false else bif decide (0 ≤ i) && decide (i < (↑a.length : Int)) then bif decide (0 ≤ i) && decide (i < (↑b.length : Int)) then bif (a.getD i.toNat (0, 0, 0, 0, 0, [], 0, 0, 0, 0, 0, 0, false)).2.1 != (b.getD i.toNat (0, 0, 0, 0, 0, [], 0, 0, 0, 0, 0, 0, false)).2.1 then some false else bif decide (0 ≤ i) && decide (i < (↑a.length : Int)) then bif decide (0 ≤ i) && decide (i < (↑b.length : Int)) then bif len40n (a.getD i.toNat (0, 0, 0, 0, 0, [], 0, 0, 0, 0, 0, 0, false)).2.2.2.2.2.1 then bif !decide ((a.getD i.toNat (0, 0, 0, 0, 0, [], 0, 0, 0, 0, 0, 0, false)).2.2 = (b.getD i.toNat (0, 0, 0, 0, 0, [], 0, 0, 0, 0, 0, 0, false)).2.2) then some false else L_sent_0 f (a, b, IntKind.i64.wrap (i + 1)) else none else none else none else none else none else none else none else some true := by kernel_rfl
noncomputable def F_sent_0 : List (SEn) → ((List (SEn)) × (List (SEn)) × Nat) → Bool
  | [], (a, b, i) => true
  | uu :: rest, (a, b, i) => bif uu.1 != (b.getD (↑i : Int).toNat (0, 0, 0, 0, 0, [], 0, 0, 0, 0, 0, 0, false)).1 then false else bif uu.2.1 != (b.getD (↑i : Int).toNat (0, 0, 0, 0, 0, [], 0, 0, 0, 0, 0, 0, false)).2.1 then false else bif !decide (uu.2.2 = (b.getD (↑i : Int).toNat (0, 0, 0, 0, 0, [], 0, 0, 0, 0, 0, 0, false)).2.2) then false else F_sent_0 rest (a, b, i + 1)
noncomputable def P_sent_0 : List (SEn) → ((List (SEn)) × (List (SEn)) × Nat) → Bool
  | [], (a, b, i) => true
  | uu :: rest, (a, b, i) => decide ((↑i : Int) < (↑b.length : Int)) && bif uu.1 != (b.getD (↑i : Int).toNat (0, 0, 0, 0, 0, [], 0, 0, 0, 0, 0, 0, false)).1 then true else decide ((↑i : Int) < (↑b.length : Int)) && bif uu.2.1 != (b.getD (↑i : Int).toNat (0, 0, 0, 0, 0, [], 0, 0, 0, 0, 0, 0, false)).2.1 then true else decide ((↑i : Int) < (↑b.length : Int)) && (len40n uu.2.2.2.2.2.1 && bif !decide (uu.2.2 = (b.getD (↑i : Int).toNat (0, 0, 0, 0, 0, [], 0, 0, 0, 0, 0, 0, false)).2.2) then true else P_sent_0 rest (a, b, i + 1))
theorem A_sent_0 : ∀ (rest : List (SEn)) (a : List (SEn)) (b : List (SEn)) (i : Nat) (hd : a.drop i = rest) (hl : a.length ≤ 1099511627776), Rns (fun f => L_sent_0 f (a, b, ((i : Nat) : Int))) (P_sent_0 rest (a, b, i)) (F_sent_0 rest (a, b, i))
  | [], a, b, i, hd, hl => ev_step (T := fun f => some true) (fun f => (L_sent_0_eq f _ _ _).trans (by simp only [ge_dec (drop_ge hd), ge0, Bool.and_self, Bool.true_and, cond_true, cond_false, List.length_set] <;> rfl)) ev_some
  | uu :: rest, a, b, i, hd, hl => ev_step (T := fun f => bif decide ((↑i : Int) < (↑b.length : Int)) then bif uu.1 != (b.getD (↑i : Int).toNat (0, 0, 0, 0, 0, [], 0, 0, 0, 0, 0, 0, false)).1 then some false else bif decide ((↑i : Int) < (↑b.length : Int)) then bif uu.2.1 != (b.getD (↑i : Int).toNat (0, 0, 0, 0, 0, [], 0, 0, 0, 0, 0, 0, false)).2.1 then some false else bif decide ((↑i : Int) < (↑b.length : Int)) then bif len40n uu.2.2.2.2.2.1 then bif !decide (uu.2.2 = (b.getD (↑i : Int).toNat (0, 0, 0, 0, 0, [], 0, 0, 0, 0, 0, 0, false)).2.2) then some false else L_sent_0 f (a, b, (↑(i + 1) : Int)) else none else none else none else none) (fun f => (L_sent_0_eq f _ _ _).trans (by simp only [lt_dec (drop_lt hd), drop_get hd, wrap_succ (drop_lt hd) hl, getD_set (drop_lt hd), ge0, Bool.and_self, Bool.true_and, cond_true, cond_false, List.length_set] <;> rfl)) (ev_chk (ev_bif ev_some (ev_chk (ev_bif ev_some (ev_chk (ev_chk (ev_bif ev_some (A_sent_0 rest _ _ _ (by first | exact drop_succ hd | exact drop_set hd | exact drop_setS (drop_set hd)) (by first | exact hl | simpa using hl)))))))))
noncomputable def F_sent : ((List (SEn)) × (List (SEn))) → Bool
  | (a, b) => bif (↑a.length : Int) != (↑b.length : Int) then false else F_sent_0 a (a, b, 0)
noncomputable def P_sent : ((List (SEn)) × (List (SEn))) → Bool
  | (a, b) => bif (↑a.length : Int) != (↑b.length : Int) then true else decide (a.length ≤ 1099511627776) && P_sent_0 a (a, b, 0)
theorem sent_auto : ∀ a : (List (SEn)) × (List (SEn)), Rns (fun f => M_sent f a) (P_sent a) (F_sent a)
  | (a, b) => ev_step (fun f => M_sent_eq f _ _) (ev_bif ev_some (ev_and fun hh => A_sent_0 _ _ _ _ rfl (of_decide_eq_true hh)))
theorem sent_0 (b : List SEn) : ∀ (r s p : List SEn), b = p ++ s → r.length = s.length → (∀ e ∈ r, len40n e.2.2.2.2.2.1 = true) → ∀ a, F_sent_0 r (a, b, p.length) = decide (r = s) ∧ P_sent_0 r (a, b, p.length) = true
  | [], [], p, hb, hl, h, a => ⟨rfl, rfl⟩
  | u :: r, v :: s, p, hb, hl, h, a => by
    obtain ⟨i1, i2⟩ := sent_0 b r s (p ++ [v]) (by simpa using hb) (by simpa using hl) (fun e he => h e (List.mem_cons_of_mem _ he)) a
    rw [show (p ++ [v]).length = p.length + 1 by simp] at i1 i2
    have hg : b.getD (Int.toNat ((p.length : Nat) : Int)) (0, 0, 0, 0, 0, [], 0, 0, 0, 0, 0, 0, false) = v := by rw [hb, Int.toNat_natCast]; simp
    have hlt : decide (((p.length : Nat) : Int) < ((b.length : Nat) : Int)) = true := decide_eq_true (by rw [hb]; simp; omega)
    have ed : decide (u :: r = v :: s) = (decide (u.1 = v.1) && (decide (u.2.1 = v.2.1) && (decide (u.2.2 = v.2.2) && decide (r = s)))) := by
      rw [Bool.eq_iff_iff]
      simp only [Bool.and_eq_true, decide_eq_true_eq, List.cons.injEq]
      constructor
      · rintro ⟨rfl, rfl⟩; exact ⟨rfl, rfl, rfl, rfl⟩
      · rintro ⟨e1, e2, e3, e4⟩; exact ⟨Prod.ext e1 (Prod.ext e2 e3), e4⟩
    have en : ∀ x y : Int, (x != y) = !decide (x = y) := fun x y => by simp [bne, beqI]
    simp only [F_sent_0, P_sent_0, hg, hlt, i1, i2, ed, en, h u (List.mem_cons_self ..), Bool.true_and]
    cases decide (u.1 = v.1) <;> cases decide (u.2.1 = v.2.1) <;> cases decide (u.2.2 = v.2.2) <;> simp
  | [], v :: s, p, hb, hl, h, a => by simp at hl
  | u :: r, [], p, hb, hl, h, a => by simp at hl
theorem sent_both : ∀ a : List SEn × List SEn, okE a.1 = true → P_sent a = true ∧ F_sent a = sentS a := by
  rintro ⟨a, b⟩ h
  have hl := okE_len h
  simp only [P_sent, F_sent, sentS]
  by_cases e : ((a.length : Nat) : Int) = ((b.length : Nat) : Int)
  · have e2 : (((a.length : Nat) : Int) != ((b.length : Nat) : Int)) = false := by simp [e]
    obtain ⟨i1, i2⟩ := sent_0 b a b [] rfl (by omega) (fun e he => okE_mem h he) a
    simp only [List.length_nil] at i1 i2
    rw [e2]
    simp only [cond_false, i1, i2, Bool.and_true]
    exact ⟨decide_eq_true hl, trivial⟩
  · have e2 : (((a.length : Nat) : Int) != ((b.length : Nat) : Int)) = true := by simpa using e
    rw [e2]
    exact ⟨rfl, (decide_eq_false (fun h => e (by rw [h]))).symm⟩
theorem sent_P : ∀ a : List SEn × List SEn, okE a.1 = true → P_sent a = true := fun a h => (sent_both a h).1
theorem sent_F : ∀ a : List SEn × List SEn, okE a.1 = true → F_sent a = sentS a := fun a h => (sent_both a h).2
theorem sent_run : ∀ a, (fun a => okE a.1 : (List (SEn)) × (List (SEn)) → Bool) a = true → ∃ f, M_sent f a = some ((sentS : (List (SEn)) × (List (SEn)) → Bool) a) := fun a h => by have h1 := sent_auto a (sent_P a h); rw [sent_F a h] at h1; exact h1
noncomputable def E_sent : Ent := ⟨31, [.rd tSEn, .rd tSEn], [.v (.bool)], fun a => (fun a => okE a.1 : (List (SEn)) × (List (SEn)) → Bool) a, fun a => (sentS : (List (SEn)) × (List (SEn)) → Bool) a⟩
theorem E_sent_ok : E_sent.Ok Try.prog := fun a hp vs hv => (sent_run a hp).elim fun f h => fnX_ok (C := C_sent) (Lt := Lt_sent) (fn := Try.f31) (rs := [.tmp 4]) [.rd tSEn, .rd tSEn] [.v (.bool)] mixed es_sent Try.func31 rfl rfl rfl (by kernel_rfl) (by kernel_rfl) f h vs hv
noncomputable def C_fdes : Cfg := ⟨Try.prog, [E_below], pmT [], 26, []⟩
theorem es_fdes : EsOk Try.prog [E_below] [] := es_cons E_below_ok (es_nil)
def Lt_fdes : Nat → LD := ldT [(0, ⟨[.box 3 3 25 3 tSId, .list 5 999 25 3 tSId, .rd 8 tSEn, .c 9 (.int .i64), .c 10 (.int .i64)], []⟩)]
noncomputable def M_fdes (f : Nat) (a : (List (SEn)) × SId) : Option ((List (SId))) := (runX (C_fdes) Lt_fdes (Kret Try.prog [.tmp 4] [.o 25 3 tSId]) f [.code (bodyOf Try.f35)] (initX [.rd tSEn, .g tSId] a) : Option (ResT [.o 25 3 tSId]))
noncomputable def L_fdes_0 (f : Nat) (x : SId × (List (SId)) × (List (SEn)) × Int × Int) : Option ((List (SId))) := (runX (C_fdes) Lt_fdes (Kret Try.prog [.tmp 4] [.o 25 3 tSId]) f (headOf Try.f35 0) ((Lt_fdes 0).mk' x) : Option (ResT [.o 25 3 tSId]))
theorem M_fdes_eq (f : Nat) (l : List (SEn)) (id : SId) : M_fdes (f + 1) (l, id) =
    L_fdes_0 f (id, [], l, (↑l.length : Int), 0) := by kernel_rfl
theorem L_fdes_0_eq (f : Nat) (id : SId) (out : List (SId)) (x8 : List (SEn)) (x9 : Int) (x10 : Int) : L_fdes_0 (f + 1) (id, out, x8, x9, x10) =
    bif decide (x10 < x9) then bif decide (0 ≤ x10) && decide (x10 < (↑x8.length : Int)) then bif len40n (npath (x8.getD x10.toNat (0, 0, 0, 0, 0, [], 0, 0, 0, 0, 0, 0, false)).2.2) then bif memD id (npath (x8.getD x10.toNat (0, 0, 0, 0, 0, [], 0, 0, 0, 0, 0, 0, false)).2.2) then bif decide ((out.length + [((x8.getD x10.toNat (0, 0, 0, 0, 0, [], 0, 0, 0, 0, 0, 0, false)).2.2.1, (x8.getD x10.toNat (0, 0, 0, 0, 0, [], 0, 0, 0, 0, 0, 0, false)).2.2.2.1, (x8.getD x10.toNat (0, 0, 0, 0, 0, [], 0, 0, 0, 0, 0, 0, false)).2.2.2.2.1)].length) * 24 ≤ 140737488355328) then L_fdes_0 f (id, out ++ [((x8.getD x10.toNat (0, 0, 0, 0, 0, [], 0, 0, 0, 0, 0, 0, false)).2.2.1, (x8.getD x10.toNat (0, 0, 0, 0, 0, [], 0, 0, 0, 0, 0, 0, false)).2.2.2.1, (x8.getD x10.toNat (0, 0, 0, 0, 0, [], 0, 0, 0, 0, 0, 0, false)).2.2.2.2.1)], x8, x9, IntKind.i64.wrap (x10 + 1)) else none else L_fdes_0 f (id, out, x8, x9, IntKind.i64.wrap (x10 + 1)) else none else none else some out := by kernel_rfl
noncomputable def F_fdes_0 : List (SEn) → (SId × (List (SId)) × (List (SEn)) × Int × Nat) → (List (SId))
  | [], (id, out, x8, x9, x10) => out
  | uu :: rest, (id, out, x8, x9, x10) => bif memD id (npath uu.2.2) then F_fdes_0 rest (id, out ++ [(uu.2.2.1, uu.2.2.2.1, uu.2.2.2.2.1)], x8, x9, x10 + 1) else F_fdes_0 rest (id, out, x8, x9, x10 + 1)
noncomputable def P_fdes_0 : List (SEn) → (SId × (List (SId)) × (List (SEn)) × Int × Nat) → Bool
  | [], (id, out, x8, x9, x10) => true
  | uu :: rest, (id, out, x8, x9, x10) => len40n (npath uu.2.2) && bif memD id (npath uu.2.2) then decide ((out.length + [(uu.2.2.1, uu.2.2.2.1, uu.2.2.2.2.1)].length) * 24 ≤ 140737488355328) && P_fdes_0 rest (id, out ++ [(uu.2.2.1, uu.2.2.2.1, uu.2.2.2.2.1)], x8, x9, x10 + 1) else P_fdes_0 rest (id, out, x8, x9, x10 + 1)
theorem A_fdes_0 : ∀ (rest : List (SEn)) (id : SId) (out : List (SId)) (x8 : List (SEn)) (x9 : Int) (x10 : Nat) (hd : x8.drop x10 = rest) (hn : x9 = ((x8.length : Nat) : Int)) (hl : x8.length ≤ 1099511627776), Rns (fun f => L_fdes_0 f (id, out, x8, x9, ((x10 : Nat) : Int))) (P_fdes_0 rest (id, out, x8, x9, x10)) (F_fdes_0 rest (id, out, x8, x9, x10))
  | [], id, out, x8, x9, x10, hd, hn, hl => ev_step (T := fun f => some out) (fun f => (L_fdes_0_eq f _ _ _ _ _).trans (by simp only [ge_decn hn (drop_ge hd), ge0, Bool.and_self, Bool.true_and, cond_true, cond_false, List.length_set] <;> rfl)) ev_some
  | uu :: rest, id, out, x8, x9, x10, hd, hn, hl => ev_step (T := fun f => bif len40n (npath uu.2.2) then bif memD id (npath uu.2.2) then bif decide ((out.length + [(uu.2.2.1, uu.2.2.2.1, uu.2.2.2.2.1)].length) * 24 ≤ 140737488355328) then L_fdes_0 f (id, out ++ [(uu.2.2.1, uu.2.2.2.1, uu.2.2.2.2.1)], x8, x9, (↑(x10 + 1) : Int)) else none else L_fdes_0 f (id, out, x8, x9, (↑(x10 + 1) : Int)) else none) (fun f => (L_fdes_0_eq f _ _ _ _ _).trans (by simp only [lt_decn hn (drop_lt hd), lt_dec (drop_lt hd), drop_get hd, wrap_succ (drop_lt hd) hl, getD_set (drop_lt hd), ge0, Bool.and_self, Bool.true_and, cond_true, cond_false, List.length_set] <;> rfl)) (ev_chk (ev_bif (ev_chk (A_fdes_0 rest _ _ _ _ _ (by first | exact drop_succ hd | exact drop_set hd | exact drop_setS (drop_set hd)) (by first | exact hn | simpa using hn) (by first | exact hl | simpa using hl))) (A_fdes_0 rest _ _ _ _ _ (by first | exact drop_succ hd | exact drop_set hd | exact drop_setS (drop_set hd)) (by first | exact hn | simpa using hn) (by first | exact hl | simpa using hl))))
noncomputable def F_fdes : ((List (SEn)) × SId) → (List (SId))
  | (l, id) => F_fdes_0 l (id, [], l, (↑l.length : Int), 0)
noncomputable def P_fdes : ((List (SEn)) × SId) → Bool
  | (l, id) => decide (l.length ≤ 1099511627776) && P_fdes_0 l (id, [], l, (↑l.length : Int), 0)
theorem fdes_auto : ∀ a : (List (SEn)) × SId, Rns (fun f => M_fdes f a) (P_fdes a) (F_fdes a)
  | (l, id) => ev_step (fun f => M_fdes_eq f _ _) (ev_and fun hh => A_fdes_0 _ _ _ _ _ _ rfl (by first | rfl | simp) (of_decide_eq_true hh))
theorem fdes_0 (l : List SEn) (id : SId) (x : Int) : ∀ (r : List SEn) (out : List SId) (k : Nat), (∀ e ∈ r, len40n e.2.2.2.2.2.1 = true) → out.length + r.length ≤ 1099511627776 → F_fdes_0 r (id, out, l, x, k) = out ++ desS r id ∧ P_fdes_0 r (id, out, l, x, k) = true
  | [], out, k, h, hl => ⟨by simp [F_fdes_0, desS], rfl⟩
  | u :: r, out, k, h, hl => by
    simp only [List.length_cons] at hl
    obtain ⟨i1, i2⟩ := fdes_0 l id x r (out ++ [eid u]) (k + 1) (fun e he => h e (List.mem_cons_of_mem _ he)) (by simp; omega)
    obtain ⟨j1, j2⟩ := fdes_0 l id x r out (k + 1) (fun e he => h e (List.mem_cons_of_mem _ he)) (by omega)
    have e1 : memD id (npath u.2.2) = memD id (epath u) := rfl
    have e2 : ((u.2.2.1, u.2.2.2.1, u.2.2.2.2.1) : SId) = eid u := rfl
    have e3 : len40n (npath u.2.2) = true := h u (List.mem_cons_self ..)
    simp only [F_fdes_0, P_fdes_0, e1, e2, i1, i2, j1, j2, e3, Bool.true_and, desS, List.filter_cons]
    cases memD id (epath u)
    · exact ⟨rfl, rfl⟩
    · simp only [cond_true, if_true, List.map_cons, List.append_assoc, List.singleton_append, Bool.and_true, decide_eq_true_eq, true_and]
      simp only [List.length_singleton]; omega
theorem fdes_P : ∀ a : List SEn × SId, okE a.1 = true → P_fdes a = true := fun a h => by
  simp only [P_fdes, (fdes_0 a.1 a.2 _ a.1 [] 0 (fun e he => okE_mem h he) (by simpa using okE_len h)).2, Bool.and_true]; exact decide_eq_true (okE_len h)
theorem fdes_F : ∀ a : List SEn × SId, okE a.1 = true → F_fdes a = desS a.1 a.2 := fun a h => by
  simp only [F_fdes, (fdes_0 a.1 a.2 _ a.1 [] 0 (fun e he => okE_mem h he) (by simpa using okE_len h)).1, List.nil_append]
theorem fdes_run : ∀ a, (fun a => okE a.1 : (List (SEn)) × SId → Bool) a = true → ∃ f, M_fdes f a = some ((fun a => desS a.1 a.2 : (List (SEn)) × SId → (List (SId))) a) := fun a h => by have h1 := fdes_auto a (fdes_P a h); rw [fdes_F a h] at h1; exact h1
noncomputable def E_fdes : Ent := ⟨35, [.rd tSEn, .g tSId], [.o 25 3 tSId], fun a => (fun a => okE a.1 : (List (SEn)) × SId → Bool) a, fun a => (fun a => desS a.1 a.2 : (List (SEn)) × SId → (List (SId))) a⟩
theorem E_fdes_ok : E_fdes.Ok Try.prog := fun a hp vs hv => (fdes_run a hp).elim fun f h => fnX_ok (C := C_fdes) (Lt := Lt_fdes) (fn := Try.f35) (rs := [.tmp 4]) [.rd tSEn, .g tSId] [.o 25 3 tSId] mixed es_fdes Try.func35 rfl rfl rfl (by kernel_rfl) (by kernel_rfl) f h vs hv
theorem fndR_ok (k : Int) : (fndR k).2 = decide (k ≥ 0) := by unfold fndR; cases decide (k ≥ 0) <;> rfl
theorem fndR_at {k : Int} (h : 0 ≤ k) : (fndR k).1 = k := by unfold fndR; rw [show decide (k ≥ 0) = true from decide_eq_true h]; rfl
noncomputable def C_fins : Cfg := ⟨Try.prog, [E_ffnd, E_fat, E_nless, E_fcop, E_ncop], pmT [], 64, [E_ins]⟩
theorem es_fins : EsOk Try.prog [E_ffnd, E_fat, E_nless, E_fcop, E_ncop] [E_ins] := el_cons E_ins_ok (es_cons E_ffnd_ok (es_cons E_fat_ok (es_cons E_nless_ok (es_cons E_fcop_ok (es_cons E_ncop_ok (es_nil))))))
def Lt_fins : Nat → LD := ldT [(0, ⟨[.rd 0 tSEn, .box 3 3 32 13 tSEn, .c 10 (.int .i64), .rd 37 tSEn, .c 38 (.int .i64), .c 39 (.int .i64)], []⟩)]
noncomputable def M_fins (f : Nat) (a : (List (SEn)) × SEn) : Option ((List (SEn)) × Bool) := (runX (C_fins) Lt_fins (Kret Try.prog [.tmp 4, .tmp 5] [.o 32 13 tSEn, .v (.bool)]) f [.code (bodyOf Try.f27)] (initX [.rd tSEn, .g tSEn] a) : Option (ResT [.o 32 13 tSEn, .v (.bool)]))
noncomputable def L_fins_0 (f : Nat) (x : (List (SEn)) × SEn × Int × (List (SEn)) × Int × Int) : Option ((List (SEn)) × Bool) := (runX (C_fins) Lt_fins (Kret Try.prog [.tmp 4, .tmp 5] [.o 32 13 tSEn, .v (.bool)]) f (headOf Try.f27 0) ((Lt_fins 0).mk' x) : Option (ResT [.o 32 13 tSEn, .v (.bool)]))
theorem M_fins_eq (f : Nat) (l : List (SEn)) (e : SEn) : M_fins (f + 1) (l, e) =
    bif len40n l then bif len40n l then bif (fndR (findE l (e.2.2.1, e.2.2.2.1, e.2.2.2.2.1))).2 then some ([], false) else bif (fndR (atE l e.1 e.2.1)).2 then some ([], false) else L_fins_0 f (l, e, (↑l.length : Int), l, (↑l.length : Int), 0) else none else none := by kernel_rfl
theorem L_fins_0_eq (f : Nat) (l : List (SEn)) (e : SEn) (at0 : Int) (x37 : List (SEn)) (x38 : Int) (x39 : Int) : L_fins_0 (f + 1) (l, e, at0, x37, x38, x39) =
    bif decide (x39 < x38) then bif decide (0 ≤ x39) && decide (x39 < (↑x37.length : Int)) then bif lessI ((e.2.2.1, e.2.2.2.1, e.2.2.2.2.1), (x37.getD x39.toNat (0, 0, 0, 0, 0, [], 0, 0, 0, 0, 0, 0, false)).2.2.1, (x37.getD x39.toNat (0, 0, 0, 0, 0, [], 0, 0, 0, 0, 0, 0, false)).2.2.2.1, (x37.getD x39.toNat (0, 0, 0, 0, 0, [], 0, 0, 0, 0, 0, 0, false)).2.2.2.2.1) then bif okF l then bif len40n e.2.2.2.2.2.1 then bif E_ins.pre l [e] x39 then some ((E_ins.fn l [e] x39).1, true) else none else none else none else L_fins_0 f (l, e, at0, x37, x38, IntKind.i64.wrap (x39 + 1)) else none else bif okF l then bif len40n e.2.2.2.2.2.1 then bif E_ins.pre l [e] at0 then some ((E_ins.fn l [e] at0).1, true) else none else none else none := by kernel_rfl
noncomputable def F_fins_0 : List (SEn) → ((List (SEn)) × SEn × Int × (List (SEn)) × Int × Nat) → (List (SEn)) × Bool
  | [], (l, e, at0, x37, x38, x39) => ((E_ins.fn l [e] at0).1, true)
  | uu :: rest, (l, e, at0, x37, x38, x39) => bif lessI ((e.2.2.1, e.2.2.2.1, e.2.2.2.2.1), uu.2.2.1, uu.2.2.2.1, uu.2.2.2.2.1) then ((E_ins.fn l [e] (↑x39 : Int)).1, true) else F_fins_0 rest (l, e, at0, x37, x38, x39 + 1)
noncomputable def P_fins_0 : List (SEn) → ((List (SEn)) × SEn × Int × (List (SEn)) × Int × Nat) → Bool
  | [], (l, e, at0, x37, x38, x39) => okF l && (len40n e.2.2.2.2.2.1 && E_ins.pre l [e] at0)
  | uu :: rest, (l, e, at0, x37, x38, x39) => bif lessI ((e.2.2.1, e.2.2.2.1, e.2.2.2.2.1), uu.2.2.1, uu.2.2.2.1, uu.2.2.2.2.1) then okF l && (len40n e.2.2.2.2.2.1 && E_ins.pre l [e] (↑x39 : Int)) else P_fins_0 rest (l, e, at0, x37, x38, x39 + 1)
theorem A_fins_0 : ∀ (rest : List (SEn)) (l : List (SEn)) (e : SEn) (at0 : Int) (x37 : List (SEn)) (x38 : Int) (x39 : Nat) (hd : x37.drop x39 = rest) (hn : x38 = ((x37.length : Nat) : Int)) (hl : x37.length ≤ 1099511627776), Rns (fun f => L_fins_0 f (l, e, at0, x37, x38, ((x39 : Nat) : Int))) (P_fins_0 rest (l, e, at0, x37, x38, x39)) (F_fins_0 rest (l, e, at0, x37, x38, x39))
  | [], l, e, at0, x37, x38, x39, hd, hn, hl => ev_step (T := fun f => bif okF l then bif len40n e.2.2.2.2.2.1 then bif E_ins.pre l [e] at0 then some ((E_ins.fn l [e] at0).1, true) else none else none else none) (fun f => (L_fins_0_eq f _ _ _ _ _ _).trans (by simp only [ge_decn hn (drop_ge hd), ge0, Bool.and_self, Bool.true_and, cond_true, cond_false, List.length_set] <;> rfl)) (ev_chk (ev_chk (ev_chk1 ev_some)))
  | uu :: rest, l, e, at0, x37, x38, x39, hd, hn, hl => ev_step (T := fun f => bif lessI ((e.2.2.1, e.2.2.2.1, e.2.2.2.2.1), uu.2.2.1, uu.2.2.2.1, uu.2.2.2.2.1) then bif okF l then bif len40n e.2.2.2.2.2.1 then bif E_ins.pre l [e] (↑x39 : Int) then some ((E_ins.fn l [e] (↑x39 : Int)).1, true) else none else none else none else L_fins_0 f (l, e, at0, x37, x38, (↑(x39 + 1) : Int))) (fun f => (L_fins_0_eq f _ _ _ _ _ _).trans (by simp only [lt_decn hn (drop_lt hd), lt_dec (drop_lt hd), drop_get hd, wrap_succ (drop_lt hd) hl, getD_set (drop_lt hd), ge0, Bool.and_self, Bool.true_and, cond_true, cond_false, List.length_set] <;> rfl)) (ev_bif (ev_chk (ev_chk (ev_chk1 ev_some))) (A_fins_0 rest _ _ _ _ _ _ (by first | exact drop_succ hd | exact drop_set hd | exact drop_setS (drop_set hd)) (by first | exact hn | simpa using hn) (by first | exact hl | simpa using hl)))
noncomputable def F_fins : ((List (SEn)) × SEn) → (List (SEn)) × Bool
  | (l, e) => bif (fndR (findE l (e.2.2.1, e.2.2.2.1, e.2.2.2.2.1))).2 then ([], false) else bif (fndR (atE l e.1 e.2.1)).2 then ([], false) else F_fins_0 l (l, e, (↑l.length : Int), l, (↑l.length : Int), 0)
noncomputable def P_fins : ((List (SEn)) × SEn) → Bool
  | (l, e) => len40n l && (len40n l && bif (fndR (findE l (e.2.2.1, e.2.2.2.1, e.2.2.2.2.1))).2 then true else bif (fndR (atE l e.1 e.2.1)).2 then true else decide (l.length ≤ 1099511627776) && P_fins_0 l (l, e, (↑l.length : Int), l, (↑l.length : Int), 0))
theorem fins_auto : ∀ a : (List (SEn)) × SEn, Rns (fun f => M_fins f a) (P_fins a) (F_fins a)
  | (l, e) => ev_step (fun f => M_fins_eq f _ _) (ev_chk (ev_chk (ev_bif ev_some (ev_bif ev_some (ev_and fun hh => A_fins_0 _ _ _ _ _ _ _ rfl (by first | rfl | simp) (of_decide_eq_true hh))))))
def insPreF (a : List SEn × SEn) : Bool := okF a.1 && len40n a.2.2.2.2.2.2.1
theorem fins_0 (l : List SEn) (e : SEn) (hl : okF l = true) (he : len40n e.2.2.2.2.2.1 = true) (x : Int) : ∀ (r : List SEn) (k : Nat), l.drop k = r → k ≤ l.length →
    F_fins_0 r (l, e, ((l.length : Nat) : Int), l, x, k) = (l.take k ++ insL e r, true) ∧ P_fins_0 r (l, e, ((l.length : Nat) : Int), l, x, k) = true
  | [], k, h, hk => by
    have hlen := okF_len hl
    have : l.length ≤ k := by have := congrArg List.length h; simp at this; omega
    have hke : k = l.length := by omega
    subst hke
    constructor
    · show (insF l [e] ((l.length : Nat) : Int), true) = _
      simp [insF, insL]
    · show (okF l && (len40n e.2.2.2.2.2.1 && insP 120 l [e] ((l.length : Nat) : Int))) = true
      rw [hl, he]
      simp only [insP, Bool.true_and, Bool.and_eq_true, decide_eq_true_eq]
      exact ⟨⟨by omega, by omega⟩, rfl, by omega⟩
  | u :: r, k, h, hk => by
    obtain ⟨i1, i2⟩ := fins_0 l e hl he x r (k + 1) (drop_succ h) (drop_lt h)
    have hlen := okF_len hl
    have e1 : lessI ((e.2.2.1, e.2.2.2.1, e.2.2.2.2.1), u.2.2.1, u.2.2.2.1, u.2.2.2.2.1) = lessI (eid e, eid u) := rfl
    have e2 : ((insF l [e] ((k : Nat) : Int), true) : List SEn × Bool) = (l.take k ++ e :: u :: r, true) := by
      simp only [insF, Int.toNat_natCast, h, List.append_assoc, List.singleton_append]
    have e3 : insP 120 l [e] ((k : Nat) : Int) = true := by
      simp only [insP, Bool.and_eq_true, decide_eq_true_eq]
      exact ⟨⟨by omega, by omega⟩, rfl, by omega⟩
    simp only [F_fins_0, P_fins_0, e1, insL, i1, i2]
    cases lessI (eid e, eid u)
    · exact ⟨by simp [take_succ_drop h], rfl⟩
    · exact ⟨e2, by show (okF l && (len40n e.2.2.2.2.2.1 && insP 120 l [e] ((k : Nat) : Int))) = true; rw [hl, he, e3]; rfl⟩
theorem fins_both : ∀ a : List SEn × SEn, insPreF a = true → P_fins a = true ∧ F_fins a = insS a := by
  rintro ⟨l, e⟩ h
  simp only [insPreF, Bool.and_eq_true] at h
  have hlen := okF_len h.1
  obtain ⟨i1, i2⟩ := fins_0 l e h.1 h.2 ((l.length : Nat) : Int) l 0 rfl (by omega)
  have h4 : len40n l = true := decide_eq_true (by omega)
  have e1 : ((e.2.2.1, e.2.2.2.1, e.2.2.2.2.1) : SId) = eid e := rfl
  have hl : l.length ≤ 1099511627776 := by omega
  simp only [P_fins, F_fins, insS, fndR_ok, h4, e1, i1, i2, decide_eq_true hl, Bool.true_and]
  show (bif decide (findE l (eid e) ≥ 0) then true else bif decide (atE l e.1 e.2.1 ≥ 0) then true else true) = true ∧ (bif decide (findE l (eid e) ≥ 0) then ([], false) else bif decide (atE l e.1 e.2.1 ≥ 0) then ([], false) else ([] ++ insL e l, true)) = (bif decide (findE l (eid e) ≥ 0) || decide (atE l e.1 e.2.1 ≥ 0) then ([], false) else (insL e l, true))
  cases decide (findE l (eid e) ≥ 0) <;> cases decide (atE l e.1 e.2.1 ≥ 0) <;> exact ⟨rfl, rfl⟩
theorem fins_P : ∀ a : List SEn × SEn, insPreF a = true → P_fins a = true := fun a h => (fins_both a h).1
theorem fins_F : ∀ a : List SEn × SEn, insPreF a = true → F_fins a = insS a := fun a h => (fins_both a h).2
theorem fins_run : ∀ a, (insPreF : (List (SEn)) × SEn → Bool) a = true → ∃ f, M_fins f a = some ((insS : (List (SEn)) × SEn → (List (SEn)) × Bool) a) := fun a h => by have h1 := fins_auto a (fins_P a h); rw [fins_F a h] at h1; exact h1
noncomputable def E_fins : Ent := ⟨27, [.rd tSEn, .g tSEn], [.o 32 13 tSEn, .v (.bool)], fun a => (insPreF : (List (SEn)) × SEn → Bool) a, fun a => (insS : (List (SEn)) × SEn → (List (SEn)) × Bool) a⟩
theorem E_fins_ok : E_fins.Ok Try.prog := fun a hp vs hv => (fins_run a hp).elim fun f h => fnX_ok (C := C_fins) (Lt := Lt_fins) (fn := Try.f27) (rs := [.tmp 4, .tmp 5]) [.rd tSEn, .g tSEn] [.o 32 13 tSEn, .v (.bool)] mixed es_fins Try.func27 rfl rfl rfl (by kernel_rfl) (by kernel_rfl) f h vs hv
noncomputable def C_frem : Cfg := ⟨Try.prog, [E_ffnd, E_fcop], pmT [], 22, [E_del]⟩
theorem es_frem : EsOk Try.prog [E_ffnd, E_fcop] [E_del] := el_cons E_del_ok (es_cons E_ffnd_ok (es_cons E_fcop_ok (es_nil)))
def Lt_frem : Nat → LD := ldT []
noncomputable def M_frem (f : Nat) (a : (List (SEn)) × SId) : Option ((List (SEn)) × Bool) := (runX (C_frem) Lt_frem (Kret Try.prog [.tmp 4, .tmp 5] [.o 32 13 tSEn, .v (.bool)]) f [.code (bodyOf Try.f30)] (initX [.rd tSEn, .g tSId] a) : Option (ResT [.o 32 13 tSEn, .v (.bool)]))
theorem M_frem_eq (f : Nat) (l : List (SEn)) (id : SId) : M_frem (f + 1) (l, id) =
    bif len40n l then bif !(fndR (findE l id)).2 then some ([], false) else bif okF l then bif E_del.pre l [] ((fndR (findE l id)).1, IntKind.i64.wrap ((fndR (findE l id)).1 + 1)) then some ((E_del.fn l [] ((fndR (findE l id)).1, IntKind.i64.wrap ((fndR (findE l id)).1 + 1))).1, true) else none else none else none := by kernel_rfl
noncomputable def F_frem : ((List (SEn)) × SId) → (List (SEn)) × Bool
  | (l, id) => bif !(fndR (findE l id)).2 then ([], false) else ((E_del.fn l [] ((fndR (findE l id)).1, IntKind.i64.wrap ((fndR (findE l id)).1 + 1))).1, true)
noncomputable def P_frem : ((List (SEn)) × SId) → Bool
  | (l, id) => len40n l && bif !(fndR (findE l id)).2 then true else okF l && E_del.pre l [] ((fndR (findE l id)).1, IntKind.i64.wrap ((fndR (findE l id)).1 + 1))
theorem frem_auto : ∀ a : (List (SEn)) × SId, Rns (fun f => M_frem f a) (P_frem a) (F_frem a)
  | (l, id) => ev_step (fun f => M_frem_eq f _ _) (ev_chk (ev_bif ev_some (ev_chk (ev_chk1 ev_some))))
theorem frem_both : ∀ a : List SEn × SId, okF a.1 = true → P_frem a = true ∧ F_frem a = remS a := by
  rintro ⟨l, id⟩ h
  have hlen : l.length ≤ 68719476736 := okF_len h
  have h : okF l = true := h
  have h4 : len40n l = true := decide_eq_true (by omega)
  have hlt := findE_lt l id
  show (len40n l && bif !(fndR (findE l id)).2 then true else okF l && delP l ((fndR (findE l id)).1, IntKind.i64.wrap ((fndR (findE l id)).1 + 1))) = true ∧ (bif !(fndR (findE l id)).2 then (([], false) : List SEn × Bool) else (delF l ((fndR (findE l id)).1, IntKind.i64.wrap ((fndR (findE l id)).1 + 1)), true)) = remS (l, id)
  simp only [fndR_ok, remS, h4, h, Bool.true_and]
  by_cases h0 : findE l id < 0
  · rw [show decide (findE l id ≥ 0) = false from decide_eq_false (by omega)]; exact ⟨rfl, rfl⟩
  · have hw : IntKind.i64.wrap (findE l id + 1) = findE l id + 1 := i64_id (by omega) (by omega)
    rw [show decide (findE l id ≥ 0) = true from decide_eq_true (by omega), fndR_at (by omega), hw]
    simp only [Bool.not_true, cond_false, cond_true, delP, delF, Bool.and_eq_true, decide_eq_true_eq, and_true]
    omega
theorem frem_P : ∀ a : List SEn × SId, okF a.1 = true → P_frem a = true := fun a h => (frem_both a h).1
theorem frem_F : ∀ a : List SEn × SId, okF a.1 = true → F_frem a = remS a := fun a h => (frem_both a h).2
theorem frem_run : ∀ a, (fun a => okF a.1 : (List (SEn)) × SId → Bool) a = true → ∃ f, M_frem f a = some ((remS : (List (SEn)) × SId → (List (SEn)) × Bool) a) := fun a h => by have h1 := frem_auto a (frem_P a h); rw [frem_F a h] at h1; exact h1
noncomputable def E_frem : Ent := ⟨30, [.rd tSEn, .g tSId], [.o 32 13 tSEn, .v (.bool)], fun a => (fun a => okF a.1 : (List (SEn)) × SId → Bool) a, fun a => (remS : (List (SEn)) × SId → (List (SEn)) × Bool) a⟩
theorem E_frem_ok : E_frem.Ok Try.prog := fun a hp vs hv => (frem_run a hp).elim fun f h => fnX_ok (C := C_frem) (Lt := Lt_frem) (fn := Try.f30) (rs := [.tmp 4, .tmp 5]) [.rd tSEn, .g tSId] [.o 32 13 tSEn, .v (.bool)] mixed es_frem Try.func30 rfl rfl rfl (by kernel_rfl) (by kernel_rfl) f h vs hv
noncomputable def C_fcnf : Cfg := ⟨Try.prog, [E_ffnd, E_crng, E_cont, E_over], pmT [(6, ([(0, []), (1, []), (2, []), (3, []), (4, []), (5, []), (6, []), (7, []), (8, []), (9, []), (10, []), (11, []), (12, []), (13, []), (14, []), (15, []), (16, []), (17, []), (18, [])], [(30, 48)])), (10, ([(0, []), (1, []), (2, []), (3, [])], [(55, 58)]))], 61, []⟩
theorem es_fcnf : EsOk Try.prog [E_ffnd, E_crng, E_cont, E_over] [] := es_cons E_ffnd_ok (es_cons E_crng_ok (es_cons E_cont_ok (es_cons E_over_ok (es_nil))))
def Lt_fcnf : Nat → LD := ldT [(0, ⟨[.rd 0 tSEn, .rd 2 tSCp, .c 7 (.int .i64), .c 8 (.bool), .rd 20 tSEn, .c 21 (.int .i64), .c 22 (.int .i64)], []⟩), (2, ⟨[.rd 0 tSEn, .rd 2 tSCp, .c 7 (.int .i64), .c 8 (.bool), .box 11 11 41 2 tRg, .rd 20 tSEn, .c 21 (.int .i64), .c 22 (.int .i64), .rd 49 tSCp, .c 50 (.int .i64), .c 51 (.int .i64)], []⟩)]
noncomputable def M_fcnf (f : Nat) (a : (List (SEn)) × SId × (List (SCp))) : Option (Bool) := (runX (C_fcnf) Lt_fcnf (Kret Try.prog [.tmp 6] [.v (.bool)]) f [.code (bodyOf Try.f20)] (initX [.rd tSEn, .g tSId, .rd tSCp] a) : Option (ResT [.v (.bool)]))
noncomputable def L_fcnf_0 (f : Nat) (x : (List (SEn)) × (List (SCp)) × Int × Bool × (List (SEn)) × Int × Int) : Option (Bool) := (runX (C_fcnf) Lt_fcnf (Kret Try.prog [.tmp 6] [.v (.bool)]) f (headOf Try.f20 0) ((Lt_fcnf 0).mk' x) : Option (ResT [.v (.bool)]))
noncomputable def L_fcnf_2 (f : Nat) (x : (List (SEn)) × (List (SCp)) × Int × Bool × Rg × (List (SEn)) × Int × Int × (List (SCp)) × Int × Int) : Option (Bool) := (runX (C_fcnf) Lt_fcnf (Kret Try.prog [.tmp 6] [.v (.bool)]) f (headOf Try.f20 2) ((Lt_fcnf 2).mk' x) : Option (ResT [.v (.bool)]))
theorem M_fcnf_eq (f : Nat) (l : List (SEn)) (src : SId) (caps : List (SCp)) : M_fcnf (f + 1) (l, src, caps) =
    bif len40n l then L_fcnf_0 f (l, caps, (fndR (findE l src)).1, (fndR (findE l src)).2, l, (↑l.length : Int), 0) else none := by kernel_rfl
theorem L_fcnf_0_eq (f : Nat) (l : List (SEn)) (caps : List (SCp)) (at0 : Int) (found : Bool) (x20 : List (SEn)) (x21 : Int) (x22 : Int) : L_fcnf_0 (f + 1) (l, caps, at0, found, x20, x21, x22) =
    bif decide (x22 < x21) then bif decide (0 ≤ x22) && decide (x22 < (↑x20.length : Int)) then bif found then bif (x20.getD x22.toNat (0, 0, 0, 0, 0, [], 0, 0, 0, 0, 0, 0, false)).2.2.2.2.2.2.1 == 1 then bif decide (0 ≤ at0) && decide (at0 < (↑l.length : Int)) then bif contains (((x20.getD x22.toNat (0, 0, 0, 0, 0, [], 0, 0, 0, 0, 0, 0, false)).2.2.2.2.2.2.2.1, (x20.getD x22.toNat (0, 0, 0, 0, 0, [], 0, 0, 0, 0, 0, 0, false)).2.2.2.2.2.2.2.2.1), (l.getD at0.toNat (0, 0, 0, 0, 0, [], 0, 0, 0, 0, 0, 0, false)).2.2.2.2.2.2.2.1, (l.getD at0.toNat (0, 0, 0, 0, 0, [], 0, 0, 0, 0, 0, 0, false)).2.2.2.2.2.2.2.2.1) then L_fcnf_0 f (l, caps, at0, found, x20, x21, IntKind.i64.wrap (x22 + 1)) else L_fcnf_2 f (l, caps, at0, found, ((x20.getD x22.toNat (0, 0, 0, 0, 0, [], 0, 0, 0, 0, 0, 0, false)).2.2.2.2.2.2.2.1, (x20.getD x22.toNat (0, 0, 0, 0, 0, [], 0, 0, 0, 0, 0, 0, false)).2.2.2.2.2.2.2.2.1), x20, x21, x22, caps, (↑caps.length : Int), 0) else none else L_fcnf_2 f (l, caps, at0, found, ((x20.getD x22.toNat (0, 0, 0, 0, 0, [], 0, 0, 0, 0, 0, 0, false)).2.2.2.2.2.2.2.1, (x20.getD x22.toNat (0, 0, 0, 0, 0, [], 0, 0, 0, 0, 0, 0, false)).2.2.2.2.2.2.2.2.1), x20, x21, x22, caps, (↑caps.length : Int), 0) else L_fcnf_2 f (l, caps, at0, found, ((x20.getD x22.toNat (0, 0, 0, 0, 0, [], 0, 0, 0, 0, 0, 0, false)).2.2.2.2.2.2.2.1, (x20.getD x22.toNat (0, 0, 0, 0, 0, [], 0, 0, 0, 0, 0, 0, false)).2.2.2.2.2.2.2.2.1), x20, x21, x22, caps, (↑caps.length : Int), 0) else none else some false := by kernel_rfl
theorem L_fcnf_2_eq (f : Nat) (l : List (SEn)) (caps : List (SCp)) (at0 : Int) (found : Bool) (r : Rg) (x20 : List (SEn)) (x21 : Int) (x22 : Int) (x49 : List (SCp)) (x50 : Int) (x51 : Int) : L_fcnf_2 (f + 1) (l, caps, at0, found, r, x20, x21, x22, x49, x50, x51) =
    bif decide (x51 < x50) then bif decide (0 ≤ x51) && decide (x51 < (↑x49.length : Int)) then bif overlaps (r, (x49.getD x51.toNat (0, 0, 0, 0, 0, 0, false)).2.1, (x49.getD x51.toNat (0, 0, 0, 0, 0, 0, false)).2.2.1) then some true else L_fcnf_2 f (l, caps, at0, found, r, x20, x21, x22, x49, x50, IntKind.i64.wrap (x51 + 1)) else none else L_fcnf_0 f (l, caps, at0, found, x20, x21, IntKind.i64.wrap (x22 + 1)) := by kernel_rfl
noncomputable def F_fcnf_2 (K_0 : ((List (SEn)) × (List (SCp)) × Int × Bool × (List (SEn)) × Int × Nat) → Bool) : List (SCp) → ((List (SEn)) × (List (SCp)) × Int × Bool × Rg × (List (SEn)) × Int × Nat × (List (SCp)) × Int × Nat) → Bool
  | [], (l, caps, at0, found, r, x20, x21, x22, x49, x50, x51) => K_0 (l, caps, at0, found, x20, x21, x22 + 1)
  | uu :: rest, (l, caps, at0, found, r, x20, x21, x22, x49, x50, x51) => bif overlaps (r, uu.2.1, uu.2.2.1) then true else F_fcnf_2 K_0 rest (l, caps, at0, found, r, x20, x21, x22, x49, x50, x51 + 1)
noncomputable def P_fcnf_2 (KP_0 : ((List (SEn)) × (List (SCp)) × Int × Bool × (List (SEn)) × Int × Nat) → Bool) : List (SCp) → ((List (SEn)) × (List (SCp)) × Int × Bool × Rg × (List (SEn)) × Int × Nat × (List (SCp)) × Int × Nat) → Bool
  | [], (l, caps, at0, found, r, x20, x21, x22, x49, x50, x51) => KP_0 (l, caps, at0, found, x20, x21, x22 + 1)
  | uu :: rest, (l, caps, at0, found, r, x20, x21, x22, x49, x50, x51) => bif overlaps (r, uu.2.1, uu.2.2.1) then true else P_fcnf_2 KP_0 rest (l, caps, at0, found, r, x20, x21, x22, x49, x50, x51 + 1)
theorem A_fcnf_2 {K_0 : ((List (SEn)) × (List (SCp)) × Int × Bool × (List (SEn)) × Int × Nat) → Bool} {KP_0 : ((List (SEn)) × (List (SCp)) × Int × Bool × (List (SEn)) × Int × Nat) → Bool} {rest_0 : List (SEn)} (hK_0 : ∀ (l : List (SEn)) (caps : List (SCp)) (at0 : Int) (found : Bool) (x20 : List (SEn)) (x21 : Int) (x22 : Nat) (hd : x20.drop x22 = rest_0) (hn : x21 = ((x20.length : Nat) : Int)) (hl : x20.length ≤ 1099511627776), Rns (fun f => L_fcnf_0 f (l, caps, at0, found, x20, x21, ((x22 : Nat) : Int))) (KP_0 (l, caps, at0, found, x20, x21, x22)) (K_0 (l, caps, at0, found, x20, x21, x22))) : ∀ (rest : List (SCp)) (l : List (SEn)) (caps : List (SCp)) (at0 : Int) (found : Bool) (r : Rg) (x20 : List (SEn)) (x21 : Int) (x22 : Nat) (x49 : List (SCp)) (x50 : Int) (x51 : Nat) (hd : x49.drop x51 = rest) (hn : x50 = ((x49.length : Nat) : Int)) (hl : x49.length ≤ 1099511627776) (hd_0 : x20.drop (x22 + 1) = rest_0) (hn_0 : x21 = ((x20.length : Nat) : Int)) (hl_0 : x20.length ≤ 1099511627776) (ht_0 : x22 < x20.length), Rns (fun f => L_fcnf_2 f (l, caps, at0, found, r, x20, x21, ((x22 : Nat) : Int), x49, x50, ((x51 : Nat) : Int))) (P_fcnf_2 KP_0 rest (l, caps, at0, found, r, x20, x21, x22, x49, x50, x51)) (F_fcnf_2 K_0 rest (l, caps, at0, found, r, x20, x21, x22, x49, x50, x51))
  | [], l, caps, at0, found, r, x20, x21, x22, x49, x50, x51, hd, hn, hl, hd_0, hn_0, hl_0, ht_0 => ev_step (T := fun f => L_fcnf_0 f (l, caps, at0, found, x20, x21, (↑(x22 + 1) : Int))) (fun f => (L_fcnf_2_eq f _ _ _ _ _ _ _ _ _ _ _).trans (by simp only [ge_decn hn (drop_ge hd), ge0, Bool.and_self, Bool.true_and, cond_true, cond_false, List.length_set, wrap_succ ht_0 hl_0, lt_dec ht_0, getD_set ht_0, lt_decn hn_0 ht_0] <;> rfl)) (hK_0 _ _ _ _ _ _ _ (by first | exact hd_0 | exact drop_setS hd_0 | exact drop_setS (drop_setS hd_0)) (by first | exact hn_0 | simpa using hn_0) (by first | exact hl_0 | simpa using hl_0))
  | uu :: rest, l, caps, at0, found, r, x20, x21, x22, x49, x50, x51, hd, hn, hl, hd_0, hn_0, hl_0, ht_0 => ev_step (T := fun f => bif overlaps (r, uu.2.1, uu.2.2.1) then some true else L_fcnf_2 f (l, caps, at0, found, r, x20, x21, (↑x22 : Int), x49, x50, (↑(x51 + 1) : Int))) (fun f => (L_fcnf_2_eq f _ _ _ _ _ _ _ _ _ _ _).trans (by simp only [lt_decn hn (drop_lt hd), lt_dec (drop_lt hd), drop_get hd, wrap_succ (drop_lt hd) hl, getD_set (drop_lt hd), ge0, Bool.and_self, Bool.true_and, cond_true, cond_false, List.length_set, wrap_succ ht_0 hl_0, lt_dec ht_0, getD_set ht_0, lt_decn hn_0 ht_0] <;> rfl)) (ev_bif ev_some (A_fcnf_2 hK_0 rest _ _ _ _ _ _ _ _ _ _ _ (by first | exact drop_succ hd | exact drop_set hd | exact drop_setS (drop_set hd)) (by first | exact hn | simpa using hn) (by first | exact hl | simpa using hl) (by first | exact hd_0 | exact drop_setS hd_0 | exact drop_setS (drop_setS hd_0)) (by first | exact hn_0 | simpa using hn_0) (by first | exact hl_0 | simpa using hl_0) (by first | exact ht_0 | simpa using ht_0)))
noncomputable def F_fcnf_0 : List (SEn) → ((List (SEn)) × (List (SCp)) × Int × Bool × (List (SEn)) × Int × Nat) → Bool
  | [], (l, caps, at0, found, x20, x21, x22) => false
  | uu :: rest, (l, caps, at0, found, x20, x21, x22) => bif found then bif uu.2.2.2.2.2.2.1 == 1 then bif contains ((uu.2.2.2.2.2.2.2.1, uu.2.2.2.2.2.2.2.2.1), (l.getD at0.toNat (0, 0, 0, 0, 0, [], 0, 0, 0, 0, 0, 0, false)).2.2.2.2.2.2.2.1, (l.getD at0.toNat (0, 0, 0, 0, 0, [], 0, 0, 0, 0, 0, 0, false)).2.2.2.2.2.2.2.2.1) then F_fcnf_0 rest (l, caps, at0, found, x20, x21, x22 + 1) else F_fcnf_2 (F_fcnf_0 rest) caps (l, caps, at0, found, (uu.2.2.2.2.2.2.2.1, uu.2.2.2.2.2.2.2.2.1), x20, x21, x22, caps, (↑caps.length : Int), 0) else F_fcnf_2 (F_fcnf_0 rest) caps (l, caps, at0, found, (uu.2.2.2.2.2.2.2.1, uu.2.2.2.2.2.2.2.2.1), x20, x21, x22, caps, (↑caps.length : Int), 0) else F_fcnf_2 (F_fcnf_0 rest) caps (l, caps, at0, found, (uu.2.2.2.2.2.2.2.1, uu.2.2.2.2.2.2.2.2.1), x20, x21, x22, caps, (↑caps.length : Int), 0)
noncomputable def P_fcnf_0 : List (SEn) → ((List (SEn)) × (List (SCp)) × Int × Bool × (List (SEn)) × Int × Nat) → Bool
  | [], (l, caps, at0, found, x20, x21, x22) => true
  | uu :: rest, (l, caps, at0, found, x20, x21, x22) => bif found then bif uu.2.2.2.2.2.2.1 == 1 then decide (0 ≤ at0) && decide (at0 < (↑l.length : Int)) && bif contains ((uu.2.2.2.2.2.2.2.1, uu.2.2.2.2.2.2.2.2.1), (l.getD at0.toNat (0, 0, 0, 0, 0, [], 0, 0, 0, 0, 0, 0, false)).2.2.2.2.2.2.2.1, (l.getD at0.toNat (0, 0, 0, 0, 0, [], 0, 0, 0, 0, 0, 0, false)).2.2.2.2.2.2.2.2.1) then P_fcnf_0 rest (l, caps, at0, found, x20, x21, x22 + 1) else decide (caps.length ≤ 1099511627776) && P_fcnf_2 (P_fcnf_0 rest) caps (l, caps, at0, found, (uu.2.2.2.2.2.2.2.1, uu.2.2.2.2.2.2.2.2.1), x20, x21, x22, caps, (↑caps.length : Int), 0) else decide (caps.length ≤ 1099511627776) && P_fcnf_2 (P_fcnf_0 rest) caps (l, caps, at0, found, (uu.2.2.2.2.2.2.2.1, uu.2.2.2.2.2.2.2.2.1), x20, x21, x22, caps, (↑caps.length : Int), 0) else decide (caps.length ≤ 1099511627776) && P_fcnf_2 (P_fcnf_0 rest) caps (l, caps, at0, found, (uu.2.2.2.2.2.2.2.1, uu.2.2.2.2.2.2.2.2.1), x20, x21, x22, caps, (↑caps.length : Int), 0)
theorem A_fcnf_0 : ∀ (rest : List (SEn)) (l : List (SEn)) (caps : List (SCp)) (at0 : Int) (found : Bool) (x20 : List (SEn)) (x21 : Int) (x22 : Nat) (hd : x20.drop x22 = rest) (hn : x21 = ((x20.length : Nat) : Int)) (hl : x20.length ≤ 1099511627776), Rns (fun f => L_fcnf_0 f (l, caps, at0, found, x20, x21, ((x22 : Nat) : Int))) (P_fcnf_0 rest (l, caps, at0, found, x20, x21, x22)) (F_fcnf_0 rest (l, caps, at0, found, x20, x21, x22))
  | [], l, caps, at0, found, x20, x21, x22, hd, hn, hl => ev_step (T := fun f => some false) (fun f => (L_fcnf_0_eq f _ _ _ _ _ _ _).trans (by simp only [ge_decn hn (drop_ge hd), ge0, Bool.and_self, Bool.true_and, cond_true, cond_false, List.length_set] <;> rfl)) ev_some
  | uu :: rest, l, caps, at0, found, x20, x21, x22, hd, hn, hl => ev_step (T := fun f => bif found then bif uu.2.2.2.2.2.2.1 == 1 then bif decide (0 ≤ at0) && decide (at0 < (↑l.length : Int)) then bif contains ((uu.2.2.2.2.2.2.2.1, uu.2.2.2.2.2.2.2.2.1), (l.getD at0.toNat (0, 0, 0, 0, 0, [], 0, 0, 0, 0, 0, 0, false)).2.2.2.2.2.2.2.1, (l.getD at0.toNat (0, 0, 0, 0, 0, [], 0, 0, 0, 0, 0, 0, false)).2.2.2.2.2.2.2.2.1) then L_fcnf_0 f (l, caps, at0, found, x20, x21, (↑(x22 + 1) : Int)) else L_fcnf_2 f (l, caps, at0, found, (uu.2.2.2.2.2.2.2.1, uu.2.2.2.2.2.2.2.2.1), x20, x21, (↑x22 : Int), caps, (↑caps.length : Int), 0) else none else L_fcnf_2 f (l, caps, at0, found, (uu.2.2.2.2.2.2.2.1, uu.2.2.2.2.2.2.2.2.1), x20, x21, (↑x22 : Int), caps, (↑caps.length : Int), 0) else L_fcnf_2 f (l, caps, at0, found, (uu.2.2.2.2.2.2.2.1, uu.2.2.2.2.2.2.2.2.1), x20, x21, (↑x22 : Int), caps, (↑caps.length : Int), 0)) (fun f => (L_fcnf_0_eq f _ _ _ _ _ _ _).trans (by simp only [lt_decn hn (drop_lt hd), lt_dec (drop_lt hd), drop_get hd, wrap_succ (drop_lt hd) hl, getD_set (drop_lt hd), ge0, Bool.and_self, Bool.true_and, cond_true, cond_false, List.length_set] <;> rfl)) (ev_bif (ev_bif (ev_chk (ev_bif (A_fcnf_0 rest _ _ _ _ _ _ _ (by first | exact drop_succ hd | exact drop_set hd | exact drop_setS (drop_set hd)) (by first | exact hn | simpa using hn) (by first | exact hl | simpa using hl)) (ev_and fun hh => A_fcnf_2 (A_fcnf_0 rest) _ _ _ _ _ _ _ _ _ _ _ _ rfl (by first | rfl | simp) (of_decide_eq_true hh) (by first | exact drop_succ hd | exact drop_set hd | exact drop_setS (drop_set hd)) (by first | exact hn | simpa using hn) (by first | exact hl | simpa using hl) (by first | exact drop_lt hd | simpa using drop_lt hd)))) (ev_and fun hh => A_fcnf_2 (A_fcnf_0 rest) _ _ _ _ _ _ _ _ _ _ _ _ rfl (by first | rfl | simp) (of_decide_eq_true hh) (by first | exact drop_succ hd | exact drop_set hd | exact drop_setS (drop_set hd)) (by first | exact hn | simpa using hn) (by first | exact hl | simpa using hl) (by first | exact drop_lt hd | simpa using drop_lt hd))) (ev_and fun hh => A_fcnf_2 (A_fcnf_0 rest) _ _ _ _ _ _ _ _ _ _ _ _ rfl (by first | rfl | simp) (of_decide_eq_true hh) (by first | exact drop_succ hd | exact drop_set hd | exact drop_setS (drop_set hd)) (by first | exact hn | simpa using hn) (by first | exact hl | simpa using hl) (by first | exact drop_lt hd | simpa using drop_lt hd)))
noncomputable def F_fcnf : ((List (SEn)) × SId × (List (SCp))) → Bool
  | (l, src, caps) => F_fcnf_0 l (l, caps, (fndR (findE l src)).1, (fndR (findE l src)).2, l, (↑l.length : Int), 0)
noncomputable def P_fcnf : ((List (SEn)) × SId × (List (SCp))) → Bool
  | (l, src, caps) => len40n l && (decide (l.length ≤ 1099511627776) && P_fcnf_0 l (l, caps, (fndR (findE l src)).1, (fndR (findE l src)).2, l, (↑l.length : Int), 0))
theorem fcnf_auto : ∀ a : (List (SEn)) × SId × (List (SCp)), Rns (fun f => M_fcnf f a) (P_fcnf a) (F_fcnf a)
  | (l, src, caps) => ev_step (fun f => M_fcnf_eq f _ _ _) (ev_chk (ev_and fun hh => A_fcnf_0 _ _ _ _ _ _ _ _ rfl (by first | rfl | simp) (of_decide_eq_true hh)))
theorem fcnf_2 (K KP : List SEn × List SCp × Int × Bool × List SEn × Int × Nat → Bool) (l : List SEn) (caps : List SCp) (a : Int) (fd : Bool) (rg : Rg) (x20 : List SEn) (x21 x50 : Int) (x22 : Nat) : ∀ (r : List SCp) (k : Nat),
    F_fcnf_2 K r (l, caps, a, fd, rg, x20, x21, x22, caps, x50, k) = (r.any (fun c => overlaps (rg, rgC c)) || K (l, caps, a, fd, x20, x21, x22 + 1)) ∧ (KP (l, caps, a, fd, x20, x21, x22 + 1) = true → P_fcnf_2 KP r (l, caps, a, fd, rg, x20, x21, x22, caps, x50, k) = true)
  | [], k => ⟨rfl, fun h => h⟩
  | c :: r, k => by
    obtain ⟨i1, i2⟩ := fcnf_2 K KP l caps a fd rg x20 x21 x50 x22 r (k + 1)
    have e : overlaps (rg, c.2.1, c.2.2.1) = overlaps (rg, rgC c) := rfl
    simp only [F_fcnf_2, P_fcnf_2, i1, e, List.any_cons]
    cases overlaps (rg, rgC c)
    · exact ⟨rfl, fun h => i2 h⟩
    · exact ⟨rfl, fun _ => rfl⟩
theorem fcnf_0 (l : List SEn) (caps : List SCp) (s : Int) (hs : s < l.length) (hc : caps.length ≤ 1099511627776) (x21 : Int) (a : Int) (fd : Bool) (hfd : fd = decide (s ≥ 0)) (ha : 0 ≤ s → a = s) : ∀ (r : List SEn) (k : Nat),
    F_fcnf_0 r (l, caps, a, fd, l, x21, k) = r.any (fun e => caps.any fun c => hitE l s c e) ∧ P_fcnf_0 r (l, caps, a, fd, l, x21, k) = true
  | [], k => ⟨rfl, rfl⟩
  | u :: r, k => by
    obtain ⟨i1, i2⟩ := fcnf_0 l caps s hs hc x21 a fd hfd ha r (k + 1)
    obtain ⟨j1, j2⟩ := fcnf_2 (F_fcnf_0 r) (P_fcnf_0 r) l caps a fd (rgE u) l x21 ((caps.length : Nat) : Int) k caps 0
    have j2 := j2 i2
    have e1 : ((u.2.2.2.2.2.2.2.1, u.2.2.2.2.2.2.2.2.1) : Rg) = rgE u := rfl
    have e2 : ((l.getD a.toNat (0, 0, 0, 0, 0, [], 0, 0, 0, 0, 0, 0, false)).2.2.2.2.2.2.2.1, (l.getD a.toNat (0, 0, 0, 0, 0, [], 0, 0, 0, 0, 0, 0, false)).2.2.2.2.2.2.2.2.1) = rgE (l.getD a.toNat zEn) := rfl
    have e3 : (u.2.2.2.2.2.2.1 == 1) = decide ((ecap u).1 = 1) := beqI _ _
    simp only [F_fcnf_0, P_fcnf_0, e1, e2, e3, i1, i2, j1, j2, decide_eq_true hc, List.any_cons, Bool.and_self]
    by_cases h0 : s ≥ 0
    · have h1 : fd = true := by rw [hfd]; exact decide_eq_true h0
      have h2 := ha h0
      subst h1 h2
      rw [decide_eq_true (show (0 : Int) ≤ a from h0), decide_eq_true hs]
      have eh : (fun c => hitE l a c u) = fun c => overlaps (rgE u, rgC c) && !(decide ((ecap u).1 = 1) && contains (rgE u, rgE (l.getD a.toNat zEn))) := by
        funext c; simp only [hitE, decide_eq_true h0, Bool.true_and]
      rw [eh]
      cases decide ((ecap u).1 = 1)
      · simp
      · cases contains (rgE u, rgE (l.getD a.toNat zEn)) <;> simp
    · have h1 : fd = false := by rw [hfd]; exact decide_eq_false h0
      subst h1
      have eh : (fun c => hitE l s c u) = fun c => overlaps (rgE u, rgC c) := by
        funext c; simp only [hitE, decide_eq_false h0, Bool.false_and, Bool.not_false, Bool.and_true]
      rw [eh]
      exact ⟨rfl, rfl⟩
theorem any_swap {α β : Type} (p : α → β → Bool) : ∀ (xs : List α) (ys : List β), (xs.any fun a => ys.any fun b => p a b) = (ys.any fun b => xs.any fun a => p a b) := fun xs ys => by
  rw [Bool.eq_iff_iff]
  simp only [List.any_eq_true]
  constructor
  · rintro ⟨a, ha, b, hb, h⟩; exact ⟨b, hb, a, ha, h⟩
  · rintro ⟨b, hb, a, ha, h⟩; exact ⟨a, ha, b, hb, h⟩
theorem fcnf_both : ∀ a : List SEn × SId × List SCp, cnfPre a = true → P_fcnf a = true ∧ F_fcnf a = cnfS a := by
  rintro ⟨l, src, caps⟩ h
  simp only [cnfPre, Bool.and_eq_true] at h
  have hl : l.length ≤ 1099511627776 := of_decide_eq_true h.1
  have hc : caps.length ≤ 1099511627776 := of_decide_eq_true h.2
  obtain ⟨i1, i2⟩ := fcnf_0 l caps (findE l src) (findE_lt l src) hc ((l.length : Nat) : Int) _ _ (fndR_ok _) fndR_at l 0
  simp only [P_fcnf, F_fcnf, i1, i2, h.1, decide_eq_true hl, cnfS, Bool.and_self, true_and]
  exact any_swap _ _ _
theorem fcnf_P : ∀ a : List SEn × SId × List SCp, cnfPre a = true → P_fcnf a = true := fun a h => (fcnf_both a h).1
theorem fcnf_F : ∀ a : List SEn × SId × List SCp, cnfPre a = true → F_fcnf a = cnfS a := fun a h => (fcnf_both a h).2
theorem fcnf_run : ∀ a, (cnfPre : (List (SEn)) × SId × (List (SCp)) → Bool) a = true → ∃ f, M_fcnf f a = some ((cnfS : (List (SEn)) × SId × (List (SCp)) → Bool) a) := fun a h => by have h1 := fcnf_auto a (fcnf_P a h); rw [fcnf_F a h] at h1; exact h1
noncomputable def E_fcnf : Ent := ⟨20, [.rd tSEn, .g tSId, .rd tSCp], [.v (.bool)], fun a => (cnfPre : (List (SEn)) × SId × (List (SCp)) → Bool) a, fun a => (cnfS : (List (SEn)) × SId × (List (SCp)) → Bool) a⟩
theorem E_fcnf_ok : E_fcnf.Ok Try.prog := fun a hp vs hv => (fcnf_run a hp).elim fun f h => fnX_ok (C := C_fcnf) (Lt := Lt_fcnf) (fn := Try.f20) (rs := [.tmp 6]) [.rd tSEn, .g tSId, .rd tSCp] [.v (.bool)] mixed es_fcnf Try.func20 rfl rfl rfl (by kernel_rfl) (by kernel_rfl) f h vs hv
end Go.AL
