/-
  THE EXECUTOR, TWELFTH PART: what the walks that a program writes (gx.py, @@A) lean on. By an AI agent.
-/
import Derived.Test.YtbhnmholmpdmeaaGreatAxInt
namespace Go.AL
set_option linter.unusedVariables false
set_option linter.unusedSimpArgs false

def Rns {ρ : Type} (T : Nat → Option ρ) (p : Bool) (x : ρ) : Prop := p = true → ∃ f, T f = some x

section
variable {ρ : Type} {A B T L : Nat → Option ρ} {c p q : Bool} {x y : ρ}
theorem ev_some : Rns (fun _ => some x) true x := fun _ => ⟨0, rfl⟩
theorem ev_bif (ha : Rns A p x) (hb : Rns B q y) : Rns (fun f => bif c then A f else B f) (bif c then p else q) (bif c then x else y) := by cases c; exact hb; exact ha
theorem ev_chk (ha : Rns A p x) : Rns (fun f => bif c then A f else none) (c && p) x := by
  cases c
  · intro h; cases h
  · exact ha
theorem ev_and (h : c = true → Rns A p x) : Rns A (c && p) x := fun hp => h (Bool.and_eq_true_iff.1 hp).1 (Bool.and_eq_true_iff.1 hp).2
theorem ev_step (h : ∀ f, L (f + 1) = T f) (e : Rns T p x) : Rns L p x := fun hp => (e hp).elim fun f hf => ⟨f + 1, (h f).trans hf⟩
end

section
variable {α : Type} {l r : List α} {u v : α} {k : Nat}
theorem drop_lt (h : l.drop k = u :: r) : k < l.length := by
  rcases Nat.lt_or_ge k l.length with h1 | h1
  · exact h1
  · rw [List.drop_eq_nil_of_le h1] at h; cases h
theorem drop_ge (h : l.drop k = []) : ¬ k < l.length := by
  have := List.drop_eq_nil_iff.1 h; omega
theorem drop_succ (h : l.drop k = u :: r) : l.drop (k + 1) = r := by
  rw [← List.drop_drop, h]; rfl
theorem drop_get? (h : l.drop k = u :: r) : l[k]? = some u := by
  have := List.getElem?_drop (xs := l) (i := k) (j := 0); rw [h] at this; simpa using this.symm
theorem drop_get (h : l.drop k = u :: r) (z : α) : l.getD (Int.toNat ((k : Nat) : Int)) z = u := by
  rw [Int.toNat_natCast, List.getD_eq_getElem?_getD, drop_get? h]; rfl
theorem drop_setS (h : l.drop (k + 1) = r) : (l.set (Int.toNat ((k : Nat) : Int)) v).drop (k + 1) = r := by
  rw [Int.toNat_natCast, List.drop_set_of_lt (by omega)]; exact h
theorem drop_set (h : l.drop k = u :: r) : (l.set (Int.toNat ((k : Nat) : Int)) v).drop (k + 1) = r := drop_setS (drop_succ h)
theorem getD_set (h : k < l.length) (z : α) : (l.set (Int.toNat ((k : Nat) : Int)) v).getD (Int.toNat ((k : Nat) : Int)) z = v := by
  rw [Int.toNat_natCast, List.getD_eq_getElem?_getD, List.getElem?_set_self h]; rfl
theorem lt_dec (h : k < l.length) : decide (((k : Nat) : Int) < ((l.length : Nat) : Int)) = true := decide_eq_true (by omega)
theorem lt_decn {n : Int} (hn : n = ((l.length : Nat) : Int)) (h : k < l.length) : decide (((k : Nat) : Int) < n) = true := decide_eq_true (by omega)
theorem ge_decn {n : Int} (hn : n = ((l.length : Nat) : Int)) (h : ¬ k < l.length) : decide (((k : Nat) : Int) < n) = false := decide_eq_false (by omega)
theorem wrap_succ (h : k < l.length) (hl : l.length ≤ 1099511627776) : IntKind.i64.wrap (((k : Nat) : Int) + 1) = ((k + 1 : Nat) : Int) := by
  rw [i64_id (by omega) (by omega)]; rfl
end

theorem clone_ok {P : Program} {g : FuncId} {τ : List Ty} {t es : Nat}
    {B : Nat} (hne : ∀ a : List (RowT τ), 0 < a.length → a.length ≤ B → ∀ vs, ArgsV [.rd τ] a vs → FnP P g vs (RessV [.o t es τ] a))
    (hnil : FnP P g [V.ofCell (.slice none 0 0)] (RessV [.o t es τ] ([] : List (RowT τ))))
    (hemp : ∀ (b : Addr) (c : Nat), FnP P g [V.ofCell (.slice (some b) 0 c)] (RessV [.o t es τ] ([] : List (RowT τ)))) :
    ∀ a : List (RowT τ), a.length ≤ B → ∀ vs, ArgsV [.rd τ] a vs → FnP P g vs (RessV [.o t es τ] a) := by
  intro a ha vs hv
  cases a with
  | cons x a => exact hne _ (by simp) ha vs hv
  | nil =>
    simp only [ArgsV, ArgsV1, ArgV] at hv
    obtain ⟨v, rfl, rows, rfl, hr⟩ := hv
    cases rows with
    | cons r rows => exact hr.elim
    | nil =>
      refine ⟨hnil.1, fun w A vs hA hsz hrel => ?_⟩
      obtain ⟨u, hu, hr2⟩ := hrel 0 (.rd []) rfl
      have one : ∀ v : Value, v.oneCell' = true → u = v → ∀ (i : Nat) (x : V), [V.ofCell v][i]? = some x → ∃ u, vs[i]? = some u ∧ Rel ⟨w, A, noH, noB⟩ x u := by
        rintro v hv1 rfl i x hx
        cases i with
        | zero => cases hx; exact ⟨u, hu, Rel.of_relP (relP_ofCell u hv1)⟩
        | succ i => simp at hx
      rcases hr2 with ⟨⟨a, rfl⟩, _⟩ | ⟨b, off, cap, es, f, rfl, _⟩
      · cases a with
        | none => exact hnil.2 w A vs hA hsz (one _ rfl rfl)
        | some b => exact (hemp b 0).2 w A vs hA hsz (one _ rfl rfl)
      · exact (hemp ⟨b, off, none⟩ cap).2 w A vs hA hsz (one _ rfl rfl)
theorem clone_len {n b : Nat} (h0 : 0 < n) (h : n ≤ 1099511627776) (hb : b ≤ 128) {α : Type} {x y : Option α} : (bif decide (0 < n) && true then bif decide ((([] : List Nat).length + n) * b ≤ 140737488355328) then x else y else y) = x := by
  rw [Bool.and_true, bif_pos h0, bif_pos]
  simp only [List.length_nil, Nat.zero_add]
  exact Nat.le_trans (Nat.mul_le_mul h hb) (by decide)
def len40n {α : Type} (l : List α) : Bool := decide (l.length ≤ 1099511627776)
end Go.AL
