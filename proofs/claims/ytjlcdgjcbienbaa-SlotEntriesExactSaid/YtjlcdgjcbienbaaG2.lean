/-
  Entries, forests and how they are made: contracts of the functions of layer 13's reference. By an AI agent.
-/
import Derived.Test.YtjlcdgjcbienbaaG1
namespace Go.AL
open Go.Proofs
set_option linter.unusedVariables false
set_option linter.unusedSimpArgs false
abbrev tSEn : List Ty := [.int .i64, .int .i64, .int .i64, .int .i64, .int .i64, .sl [.int .i64, .int .i64, .int .i64], .int .i64, .int .i64, .int .i64, .int .i64, .int .i64, .int .i64, .bool]
abbrev SEn := Int × Int × Int × Int × Int × (List (Int × Int × Int)) × Int × Int × Int × Int × Int × Int × Bool
/-! ### Numbers -/
def place (a : Int × Int) : Int := bif decide (a.2 < 1) then 0 else a.1 % a.2
def small (a : Int × Int) : Rg := (place (a.1, p2 (16 - (6 + place (a.2, 11)))) * p2 (6 + place (a.2, 11)), 6 + place (a.2, 11))
def untS (a : Int × Int) : SCp := (1, (small a).1, (small a).2, 7, 0, 0, false)
/-! ### Entries -/
def eid (e : SEn) : SId := nid e.2.2
def epath (e : SEn) : List SId := npath e.2.2
def ecap (e : SEn) : SCp := ncap e.2.2
def okE (l : List SEn) : Bool := decide (l.length ≤ 1099511627776) && l.all fun e => len40n e.2.2.2.2.2.1
theorem okE_len {l : List SEn} (h : okE l = true) : l.length ≤ 1099511627776 := by
  simp only [okE, Bool.and_eq_true, decide_eq_true_eq] at h; exact h.1
theorem okE_mem {l : List SEn} (h : okE l = true) {e : SEn} (he : e ∈ l) : len40n e.2.2.2.2.2.1 = true := by
  simp only [okE, Bool.and_eq_true] at h; exact List.all_eq_true.1 h.2 e he
theorem okE_mk {l : List SEn} (h1 : l.length ≤ 1099511627776) (h2 : ∀ e ∈ l, len40n e.2.2.2.2.2.1 = true) : okE l = true := by
  simp only [okE, Bool.and_eq_true, decide_eq_true_eq]; exact ⟨h1, List.all_eq_true.2 h2⟩
noncomputable def C_rcent : Cfg := ⟨Try.prog, [E_cnode], pmT [(5, ([(0, []), (1, []), (2, []), (3, []), (4, []), (5, []), (6, []), (7, []), (8, []), (9, []), (10, []), (11, []), (12, []), (13, []), (14, []), (15, []), (16, []), (17, []), (18, []), (19, []), (20, [])], [(3, 3), (11, 30)]))], 32, [], []⟩
theorem es_rcent : EsOk Try.prog [E_cnode] [] := es_cons E_cnode_ok (es_nil)
def Lt_rcent : Nat → LD := ldT [(0, ⟨[.rd 0 tSEn, .list 3 999 74 13 tSEn, .c 4 (.int .i64)], [], 0⟩)]
noncomputable def M_rcent (f : Nat) (a : (List (SEn))) : Option ((List (SEn))) := (runX (C_rcent) Lt_rcent (Kret Try.prog [.tmp 2] [.o 74 13 tSEn]) f [.code (bodyOf Try.f67)] (initX [.rd tSEn] a) : Option (ResT [.o 74 13 tSEn]))
noncomputable def L_rcent_0 (f : Nat) (x : (List (SEn)) × (List (SEn)) × Int) : Option ((List (SEn))) := (runX (C_rcent) Lt_rcent (Kret Try.prog [.tmp 2] [.o 74 13 tSEn]) f (headOf Try.f67 0) ((Lt_rcent 0).mk' x) : Option (ResT [.o 74 13 tSEn]))
theorem M_rcent_eq (f : Nat) (l : List (SEn)) : M_rcent (f + 1) l =
    L_rcent_0 f (l, [], 0) := by kernel_rfl
theorem L_rcent_0_eq (f : Nat) (l : List (SEn)) (out : List (SEn)) (i : Int) : L_rcent_0 (f + 1) (l, out, i) =
    bif decide (i < (↑l.length : Int)) then bif decide (0 ≤ i) && decide (i < (↑l.length : Int)) then bif decide (0 ≤ i) && decide (i < (↑l.length : Int)) then bif decide (0 ≤ i) && decide (i < (↑l.length : Int)) then bif len40n (l.getD i.toNat (0, 0, 0, 0, 0, [], 0, 0, 0, 0, 0, 0, false)).2.2.2.2.2.1 then bif decide ((out.length + [((l.getD i.toNat (0, 0, 0, 0, 0, [], 0, 0, 0, 0, 0, 0, false)).1, (l.getD i.toNat (0, 0, 0, 0, 0, [], 0, 0, 0, 0, 0, 0, false)).2.1, (l.getD i.toNat (0, 0, 0, 0, 0, [], 0, 0, 0, 0, 0, 0, false)).2.2)].length) * 120 ≤ 140737488355328) then L_rcent_0 f (l, out ++ [l.getD i.toNat (0, 0, 0, 0, 0, [], 0, 0, 0, 0, 0, 0, false)], IntKind.i64.wrap (i + 1)) else none else none else none else none else none else some out := by kernel_rfl
noncomputable def F_rcent_0 : List (SEn) → ((List (SEn)) × (List (SEn)) × Nat) → (List (SEn))
  | [], (l, out, i) => out
  | uu :: rest, (l, out, i) => F_rcent_0 rest (l, out ++ [uu], i + 1)
noncomputable def P_rcent_0 : List (SEn) → ((List (SEn)) × (List (SEn)) × Nat) → Bool
  | [], (l, out, i) => true
  | uu :: rest, (l, out, i) => len40n uu.2.2.2.2.2.1 && (decide ((out.length + [(uu.1, uu.2.1, uu.2.2)].length) * 120 ≤ 140737488355328) && P_rcent_0 rest (l, out ++ [uu], i + 1))
theorem A_rcent_0 : ∀ (rest : List (SEn)) (l : List (SEn)) (out : List (SEn)) (i : Nat) (hd : l.drop i = rest) (hl : l.length ≤ 1099511627776), Rns (fun f => L_rcent_0 f (l, out, ((i : Nat) : Int))) (P_rcent_0 rest (l, out, i)) (F_rcent_0 rest (l, out, i))
  | [], l, out, i, hd, hl => ev_step (T := fun f => some out) (fun f => (L_rcent_0_eq f _ _ _).trans (by simp only [ge_dec (drop_ge hd), ge0, Bool.and_self, Bool.true_and, cond_true, cond_false, List.length_set] <;> rfl)) ev_some
  | uu :: rest, l, out, i, hd, hl => ev_step (T := fun f => bif len40n uu.2.2.2.2.2.1 then bif decide ((out.length + [(uu.1, uu.2.1, uu.2.2)].length) * 120 ≤ 140737488355328) then L_rcent_0 f (l, out ++ [uu], (↑(i + 1) : Int)) else none else none) (fun f => (L_rcent_0_eq f _ _ _).trans (by simp only [lt_dec (drop_lt hd), drop_get hd, wrap_succ (drop_lt hd) hl, getD_set (drop_lt hd), ge0, Bool.and_self, Bool.true_and, cond_true, cond_false, List.length_set] <;> rfl)) (ev_chk (ev_chk (A_rcent_0 rest _ _ _ (by first | exact drop_succ hd | exact drop_set hd | exact drop_setS (drop_set hd)) (by first | exact hl | simpa using hl))))
noncomputable def F_rcent : (List (SEn)) → (List (SEn))
  | l => F_rcent_0 l (l, [], 0)
noncomputable def P_rcent : (List (SEn)) → Bool
  | l => decide (l.length ≤ 1099511627776) && P_rcent_0 l (l, [], 0)
theorem rcent_auto : ∀ a : (List (SEn)), Rns (fun f => M_rcent f a) (P_rcent a) (F_rcent a)
  | l => ev_step (fun f => M_rcent_eq f _) (ev_and fun hh => A_rcent_0 _ _ _ _ rfl (of_decide_eq_true hh))
theorem rcent_0 (l : List SEn) : ∀ (r : List SEn) (out : List SEn) (k : Nat), (∀ e ∈ r, len40n e.2.2.2.2.2.1 = true) → out.length + r.length ≤ 1099511627776 → F_rcent_0 r (l, out, k) = out ++ r ∧ P_rcent_0 r (l, out, k) = true
  | [], out, k, h, hl => ⟨by simp [F_rcent_0], rfl⟩
  | u :: r, out, k, h, hl => by
    obtain ⟨i1, i2⟩ := rcent_0 l r (out ++ [u]) (k + 1) (fun e he => h e (List.mem_cons_of_mem _ he)) (by simp at hl ⊢; omega)
    have h1 := h u (List.mem_cons_self ..)
    simp only [F_rcent_0, P_rcent_0, i1, i2, h1]
    exact ⟨by simp, by simp at hl ⊢; omega⟩
theorem rcent_P : ∀ a, okE a = true → P_rcent a = true := fun a h => by
  simp only [P_rcent, (rcent_0 a a [] 0 (fun e he => okE_mem h he) (by simpa using okE_len h)).2, Bool.and_true]; exact decide_eq_true (okE_len h)
theorem rcent_F : ∀ a, okE a = true → F_rcent a = a := fun a h => by
  simp only [F_rcent, (rcent_0 a a [] 0 (fun e he => okE_mem h he) (by simpa using okE_len h)).1, List.nil_append]
theorem rcent_run : ∀ a, (okE : (List (SEn)) → Bool) a = true → ∃ f, M_rcent f a = some ((fun a => a : (List (SEn)) → (List (SEn))) a) := fun a h => by have h1 := rcent_auto a (rcent_P a h); rw [rcent_F a h] at h1; exact h1
noncomputable def E_rcent : Ent := ⟨67, [.rd tSEn], [.o 74 13 tSEn], fun a => (okE : (List (SEn)) → Bool) a, fun a => (fun a => a : (List (SEn)) → (List (SEn))) a⟩
theorem E_rcent_ok : E_rcent.Ok Try.prog := fun a hp vs hv => (rcent_run a hp).elim fun f h => fnX_ok (C := C_rcent) (Lt := Lt_rcent) (fn := Try.f67) (rs := [.tmp 2]) [.rd tSEn] [.o 74 13 tSEn] mixed es_rcent Try.func67 rfl rfl rfl (by kernel_rfl) (by kernel_rfl) f h vs hv
def findI {α : Type} (p : α → Bool) : List α → Int → Int
  | [], _ => -1
  | u :: r, k => bif p u then k else findI p r (k + 1)
def findE (l : List SEn) (id : SId) : Int := findI (fun e => decide (eid e = id)) l 0
def atE (l : List SEn) (core slot : Int) : Int := findI (fun e => decide (e.1 = core) && decide (e.2.1 = slot)) l 0
def insL (e : SEn) : List SEn → List SEn
  | [] => [e]
  | u :: r => bif lessI (eid e, eid u) then e :: u :: r else u :: insL e r
def insS (a : List SEn × SEn) : List SEn × Bool := bif decide (findE a.1 (eid a.2) ≥ 0) || decide (atE a.1 a.2.1 a.2.2.1 ≥ 0) then ([], false) else (insL a.2 a.1, true)
def rgC (c : SCp) : Rg := (c.2.1, c.2.2.1)
def rgE (e : SEn) : Rg := rgC (ecap e)
def zEn : SEn := (0, 0, 0, 0, 0, [], 0, 0, 0, 0, 0, 0, false)
def hitE (l : List SEn) (s : Int) (c : SCp) (e : SEn) : Bool := overlaps (rgE e, rgC c) && !(decide (s ≥ 0) && (decide ((ecap e).1 = 1) && contains (rgE e, rgE (l.getD s.toNat zEn))))
def cnfS (a : List SEn × SId × List SCp) : Bool := a.2.2.any fun c => a.1.any (hitE a.1 (findE a.1 a.2.1) c)
/-! ### How forests are made -/
def addS (a : List SEn × Int × Int × SNd) : List SEn := bif (insS (a.1, a.2.1, a.2.2.1, a.2.2.2)).2 then (insS (a.1, a.2.1, a.2.2.1, a.2.2.2)).1 else a.1
end Go.AL
