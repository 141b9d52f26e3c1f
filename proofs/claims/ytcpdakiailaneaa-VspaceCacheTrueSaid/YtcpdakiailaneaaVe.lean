/-
  Layer 16: vspace.Map, Unmap and Copy: their contracts. By an AI agent.
-/
import Derived.Test.YtcpdakiailaneaaUn2
namespace Go.Proofs
open Go.RowKit Go.Shelf Go.AL
set_option linter.unusedVariables false
set_option linter.unusedSimpArgs false
theorem Nest.post {w W : World} {A : Nat → Prop} (hA : ∀ b, A b → b < w.heap.size) {out : Value} {R : List (SPT × Value)} (hN : Nest W w.heap.size out R) (hB : Below w.heap.size w W) (sc : List RD) (us : List Value) (hlen : us.length = sc.length)
    (hsc : ∀ (k : Nat) (rd : RD), sc[k]? = some rd → ∃ u x, us[k]? = some u ∧ rd = .v x ∧ ∀ E : Env, RelA E x u) :
    PostR w A (.o tyP 4 (Ns.pV R) :: sc) W (out :: us) (fun k => if k = 0 then out.ownBlock else none) (fun b => A b ∨ out.ownBlock = some b) := by
  have hob : ∀ o ob, rdH (.o tyP 4 (Ns.pV R) :: sc) o = some ob → o = 0 ∧ ob = ⟨tyP, 4, false, Ns.pV R⟩ := fun o ob h => by
    match o, h with
    | 0, h => exact ⟨rfl, by simpa [rdH, RD.ob] using h.symm⟩
    | o + 1, h =>
      simp only [rdH, List.getElem?_cons_succ] at h
      cases hs : sc[o]? with
      | none => rw [hs] at h; cases h
      | some rd =>
        rw [hs] at h
        obtain ⟨u, x, _, rfl, _⟩ := hsc o rd hs
        cases h
  have hpl : (Ns.pV R).length = R.length := by simp [Ns.pV]
  have hlo : ∀ b, out.ownBlock = some b → w.heap.size ≤ b ∧ b < W.heap.size := fun b hb => Own.lt hN.own hb
  have hrp : ∀ p ∈ R, RelP W (fun b => A b ∨ out.ownBlock = some b) (.sl (Ns.mV (Ns.maps p.1))) p.2 := fun p hp => relP_sl.2 (Ns.mRel (hN.inn p hp) (fun g hg hx => by
    rcases hx with hx | hx
    · have := hA g hx; have := (Own.lt (hN.inn p hp) hg).1; omega
    · exact hN.ne p hp g hg hx))
  refine ⟨by simp [hlen], ⟨fun o ob ho => ?_, fun o o' ob ob' b h1 h2 _ _ => ?_, fun b hb => ?_⟩, fun k rd hk => ?_, fun b _ h => .inl h, ⟨hB.os, hB.tape, hB.output, hB.size, fun q hq _ => hB.block q hq⟩, fun k ob b h1 h2 => ?_⟩
  · obtain ⟨rfl, rfl⟩ := hob o ob ho
    simp only [if_true]
    rcases hN.own.2 with ⟨rfl, h0⟩ | ⟨g, cap, cur, rfl, h1, h2, h3, h4, h5, h6⟩
    · have : R = [] := List.eq_nil_of_length_eq_zero h0
      subst this; rfl
    · refine ⟨.inr rfl, cur, h2, fun row hr => ?_, by rw [hpl, h5]; exact Nat.mul_le_mul_right 4 h3, fun i row hi j x hx => ?_⟩
      · obtain ⟨y, _, rfl⟩ := List.mem_map.1 hr
        rfl
      · simp only [Ns.pV, List.getElem?_map, Option.map_eq_some_iff] at hi
        obtain ⟨y, hy, rfl⟩ := hi
        have hj4 : j < 4 := by have := (List.getElem?_eq_some_iff.1 hx).1; simpa using this
        have hg := flat_get (f := Ns.p) (k := 4) (fun _ => rfl) R i j y hy hj4
        obtain ⟨u, hu⟩ : ∃ u, (Ns.p y)[j]? = some u := ⟨_, List.getElem?_eq_getElem hj4⟩
        rw [hu] at hg
        have hc := cells_take h6 (show (Ns.ps R)[i * 4 + j]? = some u from hg)
        have h1c : u.oneCell' = true := hN.one u (List.mem_of_getElem? (show (Ns.ps R)[i * 4 + j]? = some u from hg))
        have hrel : RelP W (fun b => A b ∨ (Value.slice (some ⟨g, 0, none⟩) R.length cap).ownBlock = some b) x u := by
          match j, hj4, hx, hu with
          | 0, _, hx, hu => simp at hx hu; subst hx; subst hu; exact .int _ _
          | 1, _, hx, hu => simp at hx hu; subst hx; subst hu; exact .int _ _
          | 2, _, hx, hu => simp at hx hu; subst hx; subst hu; exact .int _ _
          | 3, _, hx, hu =>
            simp at hx hu
            subst hx; subst hu
            exact hrp y (List.mem_of_getElem? hy)
        exact ⟨u, by simpa using hc, h1c, Rel1.of_relP hrel, fun _ => hrel⟩
  · exact (hob o ob h1).1.trans (hob o' ob' h2).1.symm
  · rcases hb with hb | hb
    · exact Nat.lt_of_lt_of_le (hA b hb) hB.size
    · exact (hlo b hb).2
  · match k, hk with
    | 0, hk =>
      simp at hk
      subst hk
      refine ⟨out, rfl, fun ob ho => ?_⟩
      obtain ⟨_, rfl⟩ := hob 0 ob ho
      refine ⟨Nat.le_refl _, fun _ => ?_⟩
      simp only [if_true]
      rcases hN.own.2 with ⟨rfl, h0⟩ | ⟨g, cap, cur, rfl, h1, h2, h3, h4, h5, h6⟩
      · rfl
      · exact ⟨cap, cur, by rw [hpl], by rw [hpl]; exact h3, h4, h2, h5⟩
    | k + 1, hk =>
      obtain ⟨u, x, h1, rfl, h2⟩ := hsc k rd (by simpa using hk)
      exact ⟨u, by simpa using h1, h2 _⟩
  · obtain ⟨rfl, _⟩ := hob k ob h1
    simp only [if_true] at h2
    exact (hlo b h2).1
theorem ArgAt.of {w : World} {A : Nat → Prop} (hA : ∀ b, A b → b < w.heap.size) {k : AK} {x : k.T} {v : V} {u : Value} (h : ArgV k x v) (hr : Rel ⟨w, A, noH, noB⟩ v u) : ArgAt w k x u :=
  ⟨v, h, Ns.relStep hA (Nat.le_refl _) (fun _ _ => rfl) (fun _ _ h => h.elim) hr⟩
theorem arr5 {us : Array Value} (h : us.size = 5) {a b c d e : Value} (h0 : us[0]? = some a) (h1 : us[1]? = some b) (h2 : us[2]? = some c) (h3 : us[3]? = some d) (h4 : us[4]? = some e) : us = #[a, b, c, d, e] := by
  obtain ⟨l⟩ := us
  match l, h, h0, h1, h2, h3, h4 with
  | [x0, x1, x2, x3, x4], _, h0, h1, h2, h3, h4 =>
    simp at h0 h1 h2 h3 h4
    rw [h0, h1, h2, h3, h4]
theorem arr3 {us : Array Value} (h : us.size = 3) {a b c : Value} (h0 : us[0]? = some a) (h1 : us[1]? = some b) (h2 : us[2]? = some c) : us = #[a, b, c] := by
  obtain ⟨l⟩ := us
  match l, h, h0, h1, h2 with
  | [x0, x1, x2], _, h0, h1, h2 =>
    simp at h0 h1 h2
    rw [h0, h1, h2]
def mapPre (a : List SPT × SCp × Int × SNd × Int) : Bool := okM a.1
noncomputable def E_vmap : Ent := ⟨18, [.rd tSPT, .g tSCp, .c (.int .i64), .g tSNd, .c (.int .i64)], [.o tyP 4 tSPT, .v (.int .i64)], fun a => (mapPre : List SPT × SCp × Int × SNd × Int → Bool) a, fun a => (mapS : List SPT × SCp × Int × SNd × Int → List SPT × Int) a⟩
theorem E_vmap_ok : E_vmap.Ok Try.prog := by
  rintro ⟨ts, table, index, n, mask⟩ hp vs hv
  have hp : okM ts = true := hp
  have hv : ArgsV [.rd tSPT, .g tSCp, .c (.int .i64), .g tSNd, .c (.int .i64)] ((ts, table, index, n, mask) : List SPT × SCp × Int × SNd × Int) vs := hv
  have q : ArgsV [.rd tSPT, .g tSCp, .c (.int .i64), .g tSNd, .c (.int .i64)] ((ts, table, index, n, mask) : List SPT × SCp × Int × SNd × Int) vs = ∃ v r, vs = v :: r ∧ ArgV (.rd tSPT) ts v ∧ ∃ v1 r1, r = v1 :: r1 ∧ ArgV (.g tSCp) table v1 ∧ ∃ v2 r2, r1 = v2 :: r2 ∧ ArgV (.c (.int .i64)) index v2 ∧ ∃ v3 r3, r2 = v3 :: r3 ∧ ArgV (.g tSNd) n v3 ∧ ∃ v4, r3 = [v4] ∧ ArgV (.c (.int .i64)) mask v4 := by kernel_rfl
  rw [q] at hv
  obtain ⟨v, r, rfl, k0, v1, r1, rfl, k1, v2, r2, rfl, k2, v3, r3, rfl, k3, v4, rfl, k4⟩ := hv
  refine ⟨fun rds h => resOK _ _ rds h, fun w A us hA hsz hrel => ?_⟩
  obtain ⟨u0, a0, b0⟩ := hrel 0 _ rfl
  obtain ⟨u1, a1, b1⟩ := hrel 1 _ rfl
  obtain ⟨u2, a2, b2⟩ := hrel 2 _ rfl
  obtain ⟨u3, a3, b3⟩ := hrel 3 _ rfl
  obtain ⟨u4, a4, b4⟩ := hrel 4 _ rfl
  have hus := arr5 hsz a0 a1 a2 a3 a4
  have hu := ArgAt.of hA k0 b0
  have hn := ArgAt.of hA k3 b3
  obtain ⟨row, rfl, k1⟩ := k1
  have := Ns.cap_of k1 b1
  subst this
  obtain ⟨row3, rfl, k3⟩ := k3
  obtain ⟨pv, rfl, hpv⟩ := Ns.nd_of k3 b3
  have k2 := tyV_int.1 k2
  subst k2
  have k4 := tyV_int.1 k4
  subst k4
  have b2 : RelP w A (.int .i64 index) u2 := b2
  have b4 : RelP w A (.int .i64 mask) u4 := b4
  cases b2; cases b4
  subst hus
  refine Mq.all w u0 pv ts table index n mask hp hu hn hpv _ fun W out R e hs hN hB => ?_
  refine ⟨[.o tyP 4 (Ns.pV R), .v (.int .i64 e)], [out, .int .i64 e], _, _, ?_, rfl, Nest.post hA hN hB [.v (.int .i64 e)] [.int .i64 e] rfl (fun k rd hk => ?_)⟩
  · show RessV [.o tyP 4 tSPT, .v (.int .i64)] (mapS (ts, table, index, n, mask) : List SPT × Int) _
    rw [hs]
    exact (⟨_, _, rfl, ⟨_, rfl, Ns.pV_rows R⟩, _, rfl, _, rfl, tyV_int.2 rfl⟩ : ∃ rd r, [RD.o tyP 4 (Ns.pV R), .v (.int .i64 e)] = rd :: r ∧ (∃ rows, rd = .o tyP 4 rows ∧ RowsV tSPT (R.map Prod.fst) rows) ∧ ∃ rd2, r = [rd2] ∧ ∃ y, rd2 = .v y ∧ TyV (.int .i64) e y)
  · match k, hk with
    | 0, hk => simp at hk; subst hk; exact ⟨_, _, rfl, rfl, fun E => RelP.int _ _⟩
    | k + 1, hk => simp at hk
noncomputable def E_vunm : Ent := ⟨49, [.rd tSPT, .g tSCp, .c (.int .i64)], [.o tyP 4 tSPT, .g tSId, .v (.int .i64)], fun a => (fun a => okM a.1 : List SPT × SCp × Int → Bool) a, fun a => (unmS : List SPT × SCp × Int → List SPT × SId × Int) a⟩
theorem E_vunm_ok : E_vunm.Ok Try.prog := by
  rintro ⟨ts, table, index⟩ hp vs hv
  have hp : okM ts = true := hp
  have hv : ArgsV [.rd tSPT, .g tSCp, .c (.int .i64)] ((ts, table, index) : List SPT × SCp × Int) vs := hv
  have q : ArgsV [.rd tSPT, .g tSCp, .c (.int .i64)] ((ts, table, index) : List SPT × SCp × Int) vs = ∃ v r, vs = v :: r ∧ ArgV (.rd tSPT) ts v ∧ ∃ v1 r1, r = v1 :: r1 ∧ ArgV (.g tSCp) table v1 ∧ ∃ v2, r1 = [v2] ∧ ArgV (.c (.int .i64)) index v2 := by kernel_rfl
  rw [q] at hv
  obtain ⟨v, r, rfl, k0, v1, r1, rfl, k1, v2, rfl, k2⟩ := hv
  refine ⟨fun rds h => resOK _ _ rds h, fun w A us hA hsz hrel => ?_⟩
  obtain ⟨u0, a0, b0⟩ := hrel 0 _ rfl
  obtain ⟨u1, a1, b1⟩ := hrel 1 _ rfl
  obtain ⟨u2, a2, b2⟩ := hrel 2 _ rfl
  have hus := arr3 hsz a0 a1 a2
  have hu := ArgAt.of hA k0 b0
  obtain ⟨row, rfl, k1⟩ := k1
  have := Ns.cap_of k1 b1
  subst this
  have k2 := tyV_int.1 k2
  subst k2
  have b2 : RelP w A (.int .i64 index) u2 := b2
  cases b2
  subst hus
  refine Un.all w u0 ts table index hp hu _ fun W out R i e hs hN hB => ?_
  refine ⟨[.o tyP 4 (Ns.pV R), .v (.agg [.int .i64 i.1, .int .i64 i.2.1, .int .i64 i.2.2]), .v (.int .i64 e)], [out, idVal i, .int .i64 e], _, _, ?_, rfl, Nest.post hA hN hB [.v (.agg [.int .i64 i.1, .int .i64 i.2.1, .int .i64 i.2.2]), .v (.int .i64 e)] [idVal i, .int .i64 e] rfl (fun k rd hk => ?_)⟩
  · show RessV [.o tyP 4 tSPT, .g tSId, .v (.int .i64)] (unmS (ts, table, index) : List SPT × SId × Int) _
    rw [hs]
    have hid : RowV tSId i [.int .i64 i.1, .int .i64 i.2.1, .int .i64 i.2.2] := by
      have e : ∀ row, RowV tSId i row = ∃ v r, row = v :: r ∧ (v = .int .i64 i.1) ∧ ∃ v2 r2, r = v2 :: r2 ∧ (v2 = .int .i64 i.2.1) ∧ ∃ v3, r2 = [v3] ∧ v3 = .int .i64 i.2.2 := fun row => by kernel_rfl
      rw [e]
      exact ⟨_, _, rfl, rfl, _, _, rfl, rfl, _, rfl, rfl⟩
    exact (⟨_, _, rfl, ⟨_, rfl, Ns.pV_rows R⟩, _, _, rfl, ⟨_, rfl, hid⟩, _, rfl, _, rfl, tyV_int.2 rfl⟩ : ∃ rd r, [RD.o tyP 4 (Ns.pV R), .v (.agg [.int .i64 i.1, .int .i64 i.2.1, .int .i64 i.2.2]), .v (.int .i64 e)] = rd :: r ∧ (∃ rows, rd = .o tyP 4 rows ∧ RowsV tSPT (R.map Prod.fst) rows) ∧ ∃ rd1 r1, r = rd1 :: r1 ∧ (∃ row, rd1 = .v (.agg row) ∧ RowV tSId i row) ∧ ∃ rd2, r1 = [rd2] ∧ ∃ y, rd2 = .v y ∧ TyV (.int .i64) e y)
  · match k, hk with
    | 0, hk =>
      simp at hk
      subst hk
      refine ⟨_, _, rfl, rfl, fun E => ⟨#[.int .i64 i.1, .int .i64 i.2.1, .int .i64 i.2.2], rfl, rfl, fun j x hx => ?_⟩⟩
      match j, hx with
      | 0, hx => simp at hx; subst hx; exact ⟨_, rfl, .int _ _⟩
      | 1, hx => simp at hx; subst hx; exact ⟨_, rfl, .int _ _⟩
      | 2, hx => simp at hx; subst hx; exact ⟨_, rfl, .int _ _⟩
      | j + 3, hx => simp at hx
    | 1, hk => simp at hk; subst hk; exact ⟨_, _, rfl, rfl, fun E => RelP.int _ _⟩
    | k + 2, hk => simp at hk
end Go.Proofs
