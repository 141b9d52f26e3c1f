/-
  Layer 17: MachineMapsVanish: what its run says of every call. By an AI agent.
-/
import Derived.Test.YtbhnmholmpdmeaaGreatU2
namespace Go.AL
open Go.Proofs Go.CX
set_option linter.unusedVariables false
set_option linter.unusedSimpArgs false
theorem closedF {P : Program} {g : FuncId} {b : Bool} (hm : P.follows .mixedOrders = true) {vs : List V} {args : List Value} (hargs : args.all atomC = true)
    (hus : ∀ (w : World) (A : Nat → Prop) (us : Array Value), us.size = vs.length → (∀ (i : Nat) (x : V), vs[i]? = some x → ∃ u, us[i]? = some u ∧ Rel ⟨w, A, noH, noB⟩ x u) → us = args.toArray) (h : ∀ w, Calls P g args.toArray w (EndR w (.bool b))) : FnP P g vs (RessV [.v .bool] b) := by
  have q : RessV [.v .bool] b = fun rds => ∃ rd, rds = [rd] ∧ ∃ y, rd = .v y ∧ y = .bool b := by kernel_rfl
  rw [q]
  refine ⟨fun rds hrd rd hm => ?_, fun w A us hA hvs hrel => ?_⟩
  · obtain ⟨rd0, rfl, y, rfl, rfl⟩ := hrd
    simp at hm
    subst hm
    rfl
  · have he := hus w A us hvs hrel
    subst he
    refine (h w).mono ?_
    rintro e w' ⟨rfl, h1, h2, h3, h4, h5⟩
    refine ⟨[.v (.bool b)], [.bool b], noB, A, ⟨_, rfl, _, rfl, rfl⟩, rfl, ⟨rfl, ⟨fun o ob ho => ?_, fun o o' ob ob' x ho => ?_, fun x hx => Nat.lt_of_lt_of_le (hA x hx) h4⟩, fun k rd hk => ?_, fun x _ hx => hx, ⟨h1, h3, h2, h4, fun k hk _ => h5 k hk⟩, fun k ob x hk => ?_⟩⟩
    · match o with
      | 0 => simp [rdH, RD.ob] at ho
      | o + 1 => simp [rdH] at ho
    · match o with
      | 0 => simp [rdH, RD.ob] at ho
      | o + 1 => simp [rdH] at ho
    · match k with
      | 0 => simp at hk; subst hk; exact ⟨_, rfl, RelP.bool b⟩
      | k + 1 => simp at hk
    · match k with
      | 0 => simp [rdH, RD.ob] at hk
      | k + 1 => simp [rdH] at hk
theorem mmv_law : ∀ a : ArgT [.c .bool, .c (.int .i64), .c (.int .i64)], ArgsW [.c .bool, .c (.int .i64), .c (.int .i64)] a → ∀ vs, ArgsV [.c .bool, .c (.int .i64), .c (.int .i64)] a vs → FnP Tryz.prog 3 vs (RessV [.v .bool] (true : Bool)) := by
  rintro ⟨r, index, off⟩ _ vs hv
  have q : ArgsV [.c .bool, .c (.int .i64), .c (.int .i64)] ((r, index, off) : Bool × Int × Int) vs = ∃ v0 r0, vs = v0 :: r0 ∧ ArgV (.c .bool) r v0 ∧ ∃ v1 r1, r0 = v1 :: r1 ∧ ArgV (.c (.int .i64)) index v1 ∧ ∃ v2, r1 = [v2] ∧ ArgV (.c (.int .i64)) off v2 := rfl
  have hv : ArgsV [.c .bool, .c (.int .i64), .c (.int .i64)] ((r, index, off) : Bool × Int × Int) vs := hv
  rw [q] at hv
  obtain ⟨v0, r0, rfl, k0, v1, r1, rfl, k1, v2, rfl, k2⟩ := hv
  have k0 := tyV_bool.1 k0
  have k1 := tyV_int.1 k1
  have k2 := tyV_int.1 k2
  subst k0 k1 k2
  refine closedF mixed (args := [.bool r, .int .i64 index, .int .i64 off]) rfl (fun w A us hsz hrel => ?_) (mmv_run r index off)
  obtain ⟨u0, a0, b0⟩ := hrel 0 _ rfl
  obtain ⟨u1, a1, b1⟩ := hrel 1 _ rfl
  obtain ⟨u2, a2, b2⟩ := hrel 2 _ rfl
  have b0 : RelP w A (.bool r) u0 := b0
  have b1 : RelP w A (.int .i64 index) u1 := b1
  have b2 : RelP w A (.int .i64 off) u2 := b2
  cases b0
  cases b1
  cases b2
  obtain ⟨l2⟩ := us
  match l2, hsz, a0, a1, a2 with
  | [x0, x1, x2], _, a0, a1, a2 =>
    simp at a0 a1 a2
    rw [a0, a1, a2]
end Go.AL
