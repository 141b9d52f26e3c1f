/-
  Layer 17: MachineConfigExact: what its walk says of every call. By an AI agent.
-/
import Derived.Test.YtbhnmholmpdmeaaGreatQ7
namespace Go.AL
open Go.Proofs Go.RowKit
set_option linter.unusedVariables false
set_option linter.unusedSimpArgs false
theorem all2_of {A B : Type} {R : A → B → Prop} : ∀ {xs : List A} {ys : List B}, xs.length = ys.length → (∀ (i : Nat) (a : A), xs[i]? = some a → ∃ b, ys[i]? = some b ∧ R a b) → All2 R xs ys
  | [], [], _, _ => trivial
  | a :: xs, b :: ys, hl, h => by
    obtain ⟨b', e, hr⟩ := h 0 a rfl
    simp at e
    subst e
    exact ⟨hr, all2_of (by simpa using hl) fun i x hx => by simpa using h (i + 1) x (by simpa using hx)⟩
  | [], _ :: _, hl, _ => by simp at hl
  | _ :: _, [], hl, _ => by simp at hl
theorem entV {P : Program} {g : FuncId} {ad : List AK} {t : Ty} {pre : ArgT ad → Bool} {fn : ArgT ad → t.T} (h : ∀ a, pre a = true → ∀ (w : World) (A : Nat → Prop), (∀ b, A b → b < w.heap.size) → ∀ us : Array Value, Ags w A ad a us.toList → Calls P g us w (fun en w' => ∃ u, en = .returned u ∧ Cl w' A t (fn a) u ∧ Below w.heap.size w w')) : Ent.Ok P ⟨g, ad, [.v t], pre, fn⟩ := by
  intro a hp vs hv
  refine ⟨fun rds h => resOK _ _ rds h, fun w A us hA hsz hrel => ?_⟩
  have ha : Ags w A ad a us.toList := ags_of hv (all2_of (by rw [Array.length_toList]; exact hsz.symm) fun i x hx => by
    obtain ⟨u, h1, h2⟩ := hrel i x hx
    exact ⟨u, by simpa using h1, h2⟩)
  refine (h a hp w A hA us ha).mono fun en w' hh => ?_
  obtain ⟨u, rfl, ⟨v, hv1, hv2⟩, hB⟩ := hh
  have hob : ∀ o ob, rdH [RD.v v] o = some ob → False := fun o ob h => by
    match o, h with
    | 0, h => cases h
    | o + 1, h => simp [rdH] at h
  refine ⟨[.v v], [u], noB, A, (⟨.v v, rfl, v, rfl, hv1⟩ : ∃ rd, [RD.v v] = [rd] ∧ ResV (.v t) (fn a) rd), rfl, rfl, ⟨fun o ob ho => (hob o ob ho).elim, fun o o' ob ob' b h1 _ _ _ => (hob o ob h1).elim, fun b hb => Nat.lt_of_lt_of_le (hA b hb) hB.size⟩, fun k rd hk => ?_, fun b _ h => h, ⟨hB.os, hB.tape, hB.output, hB.size, fun q hq _ => hB.block q hq⟩, fun k ob b h1 _ => (hob k ob h1).elim⟩
  match k, hk with
  | 0, hk =>
    simp at hk
    subst hk
    exact ⟨u, rfl, RelA.of_relP hv2⟩
  | k + 1, hk => simp at hk
theorem mce_law : ∀ a : ArgT [.g tSCf], ArgsW [.g tSCf] a → ∀ vs, ArgsV [.g tSCf] a vs → FnP Tryz.prog 4 vs (RessV [.v .bool] (true : Bool)) := by
  intro a _ vs hv
  refine entV (P := Tryz.prog) (g := 4) (ad := [.g tSCf]) (t := .bool) (pre := fun _ => true) (fn := fun _ => (true : Bool)) (fun a hp w A hA us ha => ?_) a rfl vs hv
  obtain ⟨u, e, hu⟩ := (show ∃ u, us.toList = [u] ∧ Ag w A (.g tSCf) a u from ha)
  have hus : us = #[u] := by rw [← Array.toArray_toList (xs := us), e]
  subst hus
  obtain ⟨vs, rfl, hr⟩ := ag_g hu
  obtain ⟨p0, p3, p4, ev, q0, q3, q4⟩ := zzCf_rw (x := (a : SCf)) hr
  have hvs : vs = (zzCf (a : SCf) p0 p3 p4).toArray := by rw [← Array.toArray_toList (xs := vs), ev]
  subst hvs
  refine (Ql.calls w hA (c := (a : SCf)) (zzCf_of q0 q3 q4) q0 q3 q4).mono fun en w' hh => ?_
  obtain ⟨rfl, hB⟩ := hh
  exact ⟨_, rfl, Cl.bool, hB⟩
end Go.AL
