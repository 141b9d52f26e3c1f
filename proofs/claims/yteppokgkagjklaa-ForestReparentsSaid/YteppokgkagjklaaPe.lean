/-
  forest.Parent: its contract. By an AI agent.
-/
import Derived.Test.YteppokgkagjklaaPa
namespace Go.Proofs
open Go.RowKit Go.Shelf Go.AL
set_option linter.unusedVariables false
set_option linter.unusedSimpArgs false
theorem Pe.agree {w W : World} {A : Nat → Prop} (h : Below w.heap.size w W) : Agree A w W := fun b hb _ => h.block b hb
theorem Pe.slAt {w W : World} {A X : Nat → Prop} (h : Below w.heap.size w W) {rows : List (List V)} {v : Value} (hs : SlAt w A X rows v) : SlAt W A X rows v := by
  rcases hs with h0 | ⟨b, off, cap, es, f, h1, h2, h3, h4, h5, h6⟩
  · exact .inl h0
  · refine .inr ⟨b, off, cap, es, f, h1, h2, fun hr => ⟨Nat.lt_of_lt_of_le (h3 hr).1 h.size, (h3 hr).2⟩, h4, fun i row hi j x hj => ?_, fun i row hi j x hj => ?_⟩
    · have hr : rows ≠ [] := fun e => by rw [e] at hi; simp at hi
      exact (h.cell (p := ⟨b, _, none⟩) (h3 hr).1).trans (h5 i row hi j x hj)
    · exact (h6 i row hi j x hj).frame (Pe.agree h) h.size (fun _ _ h => h)
theorem Pe.idRow {i : SId} {row : List V} (h : RowV tSId i row) : row = [.int .i64 i.1, .int .i64 i.2.1, .int .i64 i.2.2] := by
  have e : RowV tSId i row = ∃ v r, row = v :: r ∧ (v = .int .i64 i.1) ∧ ∃ v2 r2, r = v2 :: r2 ∧ (v2 = .int .i64 i.2.1) ∧ ∃ v3, r2 = [v3] ∧ v3 = .int .i64 i.2.2 := by kernel_rfl
  rw [e] at h
  obtain ⟨v, r, rfl, rfl, v2, r2, rfl, rfl, v3, rfl, rfl⟩ := h
  rfl
theorem Pe.enRow {e : SEn} {row : List V} (h : RowV tSEn e row) : row.length = 13 ∧ ∃ v, row[5]? = some v ∧ TyV (.sl tSId) (epath e) v := by
  have q : RowV tSEn e row = ∃ v0 r0, row = v0 :: r0 ∧ (v0 = .int .i64 e.1) ∧ ∃ v1 r1, r0 = v1 :: r1 ∧ (v1 = .int .i64 e.2.1) ∧ ∃ v2 r2, r1 = v2 :: r2 ∧ (v2 = .int .i64 e.2.2.1) ∧ ∃ v3 r3, r2 = v3 :: r3 ∧ (v3 = .int .i64 e.2.2.2.1) ∧ ∃ v4 r4, r3 = v4 :: r4 ∧ (v4 = .int .i64 e.2.2.2.2.1) ∧ ∃ v5 r5, r4 = v5 :: r5 ∧ (TyV (.sl tSId) (epath e) v5) ∧ ∃ v6 r6, r5 = v6 :: r6 ∧ (v6 = .int .i64 e.2.2.2.2.2.2.1) ∧ ∃ v7 r7, r6 = v7 :: r7 ∧ (v7 = .int .i64 e.2.2.2.2.2.2.2.1) ∧ ∃ v8 r8, r7 = v8 :: r8 ∧ (v8 = .int .i64 e.2.2.2.2.2.2.2.2.1) ∧ ∃ v9 r9, r8 = v9 :: r9 ∧ (v9 = .int .i64 e.2.2.2.2.2.2.2.2.2.1) ∧ ∃ v10 r10, r9 = v10 :: r10 ∧ (v10 = .int .i64 e.2.2.2.2.2.2.2.2.2.2.1) ∧ ∃ v11 r11, r10 = v11 :: r11 ∧ (v11 = .int .i64 e.2.2.2.2.2.2.2.2.2.2.2.1) ∧ ∃ v12, r11 = [v12] ∧ v12 = .bool e.2.2.2.2.2.2.2.2.2.2.2.2 := by kernel_rfl
  rw [q] at h
  obtain ⟨v0, r0, rfl, h0, v1, r1, rfl, h1, v2, r2, rfl, h2, v3, r3, rfl, h3, v4, r4, rfl, h4, v5, r5, rfl, h5, v6, r6, rfl, h6, v7, r7, rfl, h7, v8, r8, rfl, h8, v9, r9, rfl, h9, v10, r10, rfl, h10, v11, r11, rfl, h11, v12, rfl, h12⟩ := h
  exact ⟨rfl, v5, rfl, h5⟩
theorem Pe.slV {zs : List SId} {v : V} : TyV (.sl tSId) zs v = ((zs = [] ∧ v = .nil) ∨ ∃ rows, v = .sl rows ∧ All2 (RowV tSId) zs rows) := by kernel_rfl
theorem Pe.idVal {w : World} {A : Nat → Prop} {i : SId} {u : Value} (h : Rel ⟨w, A, noH, noB⟩ (.agg [.int .i64 i.1, .int .i64 i.2.1, .int .i64 i.2.2]) u) : u = Pa.idV i := by
  obtain ⟨vs, rfl, hsz, hc⟩ := h
  obtain ⟨u0, a0, b0⟩ := hc 0 _ rfl
  obtain ⟨u1, a1, b1⟩ := hc 1 _ rfl
  obtain ⟨u2, a2, b2⟩ := hc 2 _ rfl
  cases b0; cases b1; cases b2
  obtain ⟨l⟩ := vs
  match l, hsz, a0, a1, a2 with
  | [x, y, z], _, a0, a1, a2 =>
    simp at a0 a1 a2
    rw [a0, a1, a2]
/-- The Ids of a slice that can be read. -/
theorem Pe.ids {w : World} {A : Nat → Prop} {zs : List SId} {v : V} {u : Value} (hv : TyV (.sl tSId) zs v) (h : RelP w A v u) : (∃ a m c, u = .slice a m c) ∧ Bw.Ids w.heap.size w u zs := by
  rw [Pe.slV] at hv
  rcases hv with ⟨rfl, rfl⟩ | ⟨rows, rfl, hr⟩
  · cases h; exact ⟨⟨_, _, _, rfl⟩, .inl ⟨⟨_, _, rfl⟩, rfl⟩⟩
  · rcases relP_sl.1 h with ⟨⟨a, rfl⟩, rfl⟩ | ⟨b, off, cap, es, f, rfl, h2, h3, h4, h5, h6⟩
    · have hz : zs = [] := by cases zs with
        | nil => rfl
        | cons z zs => simp [All2] at hr
      exact ⟨⟨_, _, _, rfl⟩, .inl ⟨⟨_, _, rfl⟩, hz⟩⟩
    · refine ⟨⟨_, _, _, rfl⟩, ?_⟩
      have hl : zs.length = rows.length := hr.len
      cases hzs : zs with
      | nil =>
        rw [hzs] at hl
        rw [← hl]; exact .inl ⟨⟨_, _, rfl⟩, rfl⟩
      | cons z0 zs0 =>
        rw [← hzs]
        have hne : rows ≠ [] := fun e => by rw [e, hzs] at hl; simp at hl
        refine .inr ⟨b, off, cap, by rw [hl], (h3 hne).1, fun j z hz => ?_⟩
        obtain ⟨row, hrow, hR⟩ := hr.get j z hz
        have := Pe.idRow hR
        subst this
        have he : es = 3 := (h4 _ (List.mem_of_getElem? hrow)).symm
        subst he
        have k0 := h6 j _ hrow 0 _ rfl
        have k1 := h6 j _ hrow 1 _ rfl
        have k2 := h6 j _ hrow 2 _ rfl
        have l0 := h5 j _ hrow 0 _ rfl
        have l1 := h5 j _ hrow 1 _ rfl
        have l2 := h5 j _ hrow 2 _ rfl
        generalize f j 0 = x0 at *
        generalize f j 1 = x1 at *
        generalize f j 2 = x2 at *
        cases k0; cases k1; cases k2
        exact ⟨l0, l1, l2⟩
def parPre (a : List SEn × SId) : Bool := len40n a.1 && a.1.all fun e => decide ((epath e).length ≤ 1000)
theorem ev_below {w W : World} {n : Nat} (h : Ev w W noI.P) : Below w.heap.size w W := ⟨h.os, h.tape, h.output, h.size, fun k hk => h.block k hk (fun hq => hq)⟩
theorem Pe.one {w : World} {A : Nat → Prop} {h : Nat → Option Ob} {β : Nat → Option Nat} {k : IntKind} {x : Int} {u : Value} (hr : RelA ⟨w, A, h, β⟩ (.int k x) u) : u = .int k x := by
  have : RelP w A (.int k x) u := hr
  cases this; rfl
theorem Pe.oneB {w : World} {A : Nat → Prop} {h : Nat → Option Ob} {β : Nat → Option Nat} {b : Bool} {u : Value} (hr : RelA ⟨w, A, h, β⟩ (.bool b) u) : u = .bool b := by
  have : RelP w A (.bool b) u := hr
  cases this; rfl
noncomputable def E_fpar : Ent := ⟨36, [.rd tSEn, .g tSId], [.g tSId, .v .bool], fun a => (parPre : List SEn × SId → Bool) a, fun a => (parS : List SEn × SId → SId × Bool) a⟩
theorem Pe.post (w : World) (A : Nat → Prop) (hA : ∀ b, A b → b < w.heap.size) (i : SId) (b : Bool) (W : World) (hB : Below w.heap.size w W) :
    ∃ rds us β' A', RessV [.g tSId, .v .bool] ((i, b) : SId × Bool) rds ∧ Ending.returned (.tuple #[Pa.idV i, .bool b]) = .returned (packV us) ∧ PostR w A rds W us β' A' := by
  refine ⟨[.v (.agg [.int .i64 i.1, .int .i64 i.2.1, .int .i64 i.2.2]), .v (.bool b)], [Pa.idV i, .bool b], noB, A, ?_, rfl, ?_⟩
  · have q : RessV [.g tSId, .v .bool] ((i, b) : SId × Bool) = fun rds => ∃ rd r, rds = rd :: r ∧ (∃ row, rd = .v (.agg row) ∧ RowV tSId i row) ∧ ∃ rd2, r = [rd2] ∧ ∃ y, rd2 = .v y ∧ y = .bool b := by kernel_rfl
    rw [q]
    refine ⟨_, _, rfl, ⟨_, rfl, ?_⟩, _, rfl, _, rfl, rfl⟩
    have e : ∀ row, RowV tSId i row = ∃ v r, row = v :: r ∧ (v = .int .i64 i.1) ∧ ∃ v2 r2, r = v2 :: r2 ∧ (v2 = .int .i64 i.2.1) ∧ ∃ v3, r2 = [v3] ∧ v3 = .int .i64 i.2.2 := fun row => by kernel_rfl
    rw [e]
    exact ⟨_, _, rfl, rfl, _, _, rfl, rfl, _, rfl, rfl⟩
  · have hn : ∀ k, rdH [.v (.agg [.int .i64 i.1, .int .i64 i.2.1, .int .i64 i.2.2]), .v (.bool b)] k = none := fun k => by
      match k with
      | 0 => rfl
      | 1 => rfl
      | k + 2 => rfl
    refine ⟨rfl, ⟨fun o ob ho => (by cases (hn o).symm.trans ho), fun o o' ob ob' b ho => (by cases (hn o).symm.trans ho), fun b h => Nat.lt_of_lt_of_le (hA b h) hB.size⟩, fun k rd hk => ?_, fun b _ h => h, ⟨hB.os, hB.tape, hB.output, hB.size, fun k hk _ => hB.block k hk⟩, fun k ob b ho => (by cases (hn k).symm.trans ho)⟩
    match k, hk with
    | 0, hk =>
      simp at hk
      subst hk
      refine ⟨_, rfl, #[.int .i64 i.1, .int .i64 i.2.1, .int .i64 i.2.2], rfl, rfl, fun j x hx => ?_⟩
      match j, hx with
      | 0, hx => simp at hx; subst hx; exact ⟨_, rfl, .int _ _⟩
      | 1, hx => simp at hx; subst hx; exact ⟨_, rfl, .int _ _⟩
      | 2, hx => simp at hx; subst hx; exact ⟨_, rfl, .int _ _⟩
      | j + 3, hx => simp at hx
    | 1, hk =>
      simp at hk
      subst hk
      exact ⟨_, rfl, RelP.bool b⟩
    | k + 2, hk => simp at hk
theorem E_fpar_ok : E_fpar.Ok Try.prog := by
  rintro ⟨l, id⟩ hp vs hv
  have hp : parPre (l, id) = true := hp
  simp only [parPre, Bool.and_eq_true, List.all_eq_true, decide_eq_true_eq] at hp
  obtain ⟨hl40, hpl⟩ := hp
  have q : ArgsV [.rd tSEn, .g tSId] ((l, id) : List SEn × SId) vs = ∃ v r, vs = v :: r ∧ (∃ rows, v = .rd rows ∧ All2 (RowV tSEn) l rows) ∧ ∃ v2, r = [v2] ∧ ∃ row, v2 = .agg row ∧ RowV tSId id row := by kernel_rfl
  have hv : ArgsV [.rd tSEn, .g tSId] ((l, id) : List SEn × SId) vs := hv
  rw [q] at hv
  obtain ⟨v, r, rfl, ⟨rows, rfl, hR⟩, v2, rfl, row, rfl, hid⟩ := hv
  have := Pe.idRow hid
  subst this
  refine ⟨fun rds h => resOK _ _ rds h, fun w A us hA hsz hrel => ?_⟩
  obtain ⟨u0, a0, b0⟩ := hrel 0 _ rfl
  obtain ⟨u1, a1, b1⟩ := hrel 1 _ rfl
  have := Pe.idVal b1
  subst this
  obtain ⟨ul⟩ := us
  have hus : ul = [u0, Pa.idV id] := by
    match ul, hsz, a0, a1 with
    | [x, y], _, a0, a1 => simp at a0 a1; rw [a0, a1]
  subst hus
  have b0 : SlAt w A (Env.M ⟨w, A, noH, noB⟩) rows u0 := b0
  have hlen : l.length = rows.length := hR.len
  obtain ⟨lb, cap, rfl⟩ : ∃ lb cap, u0 = .slice lb l.length cap := by
    rcases b0 with ⟨⟨a, rfl⟩, rfl⟩ | ⟨b, off, cap, es, f, rfl, _⟩
    · exact ⟨a, 0, by rw [hlen]; rfl⟩
    · exact ⟨_, _, by rw [hlen]⟩
  refine (callsIn_wide (n := 9)).1 ((Pa.par_in Fence.wide 9 trivial trivial trivial trivial rfl (by omega) lb cap l id w ?_ ?_).mono ?_)
  · intro m W i hB
    have hf := E_ffnd_ok (l, i) hl40
    have hi : RowV tSId i [.int .i64 i.1, .int .i64 i.2.1, .int .i64 i.2.2] := by
      have e : ∀ row, RowV tSId i row = ∃ v r, row = v :: r ∧ (v = .int .i64 i.1) ∧ ∃ v2 r2, r = v2 :: r2 ∧ (v2 = .int .i64 i.2.1) ∧ ∃ v3, r2 = [v3] ∧ v3 = .int .i64 i.2.2 := fun row => by kernel_rfl
      rw [e]
      exact ⟨_, _, rfl, rfl, _, _, rfl, rfl, _, rfl, rfl⟩
    have hf := (hf [.rd rows, .agg [.int .i64 i.1, .int .i64 i.2.1, .int .i64 i.2.2]] (by
      have q : ∀ vs, ArgsV [.rd tSEn, .g tSId] ((l, i) : List SEn × SId) vs = ∃ v r, vs = v :: r ∧ (∃ rows, v = .rd rows ∧ All2 (RowV tSEn) l rows) ∧ ∃ v2, r = [v2] ∧ ∃ row, v2 = .agg row ∧ RowV tSId i row := fun vs => by kernel_rfl
      show ArgsV [.rd tSEn, .g tSId] ((l, i) : List SEn × SId) _
      rw [q]
      exact ⟨_, _, rfl, ⟨_, rfl, hR⟩, _, rfl, _, rfl, hi⟩)).2 W A #[.slice lb l.length cap, Pa.idV i] (fun b h => Nat.lt_of_lt_of_le (hA b h) hB.size) rfl (fun k x hx => by
      match k, hx with
      | 0, hx =>
        simp at hx
        subst hx
        exact ⟨_, rfl, Pe.slAt hB b0⟩
      | 1, hx =>
        simp at hx
        subst hx
        refine ⟨_, rfl, #[.int .i64 i.1, .int .i64 i.2.1, .int .i64 i.2.2], rfl, rfl, fun j x hx => ?_⟩
        match j, hx with
        | 0, hx => simp at hx; subst hx; exact ⟨_, rfl, .int _ _⟩
        | 1, hx => simp at hx; subst hx; exact ⟨_, rfl, .int _ _⟩
        | 2, hx => simp at hx; subst hx; exact ⟨_, rfl, .int _ _⟩
        | j + 3, hx => simp at hx
      | k + 2, hx => simp at hx)
    refine callsIn_wide.2 (hf.mono ?_)
    rintro e W' ⟨rds, us, β', A', hrd, rfl, hpost⟩
    have q : RessV [.v (.int .i64), .v .bool] (fndR (findE l i)) = fun rds => ∃ rd r, rds = rd :: r ∧ (∃ y, rd = .v y ∧ y = .int .i64 (fndR (findE l i)).1) ∧ ∃ rd2, r = [rd2] ∧ ∃ y, rd2 = .v y ∧ y = .bool (fndR (findE l i)).2 := by kernel_rfl
    have hrd : RessV [.v (.int .i64), .v .bool] (fndR (findE l i)) rds := hrd
    rw [q] at hrd
    obtain ⟨rd, r, rfl, ⟨y, rfl, rfl⟩, rd2, rfl, y2, rfl, rfl⟩ := hrd
    obtain ⟨x0, p0, q0⟩ := hpost.rel 0 _ rfl
    obtain ⟨x1, p1, q1⟩ := hpost.rel 1 _ rfl
    have := Pe.one q0
    have := Pe.oneB q1
    subst x0 x1
    refine ⟨?_, ev_below (n := 0) hpost.ev⟩
    have hl := hpost.len
    match us, hl, p0, p1 with
    | [x, y], _, p0, p1 => simp at p0 p1; rw [p0, p1]; rfl
  · intro k e hk
    refine ⟨of_decide_eq_true (List.all_eq_true.1 hpl e (List.mem_of_getElem? hk)), ?_⟩
    obtain ⟨row, hrow, hRe⟩ := hR.get k e hk
    obtain ⟨h13, v, hv5, htv⟩ := Pe.enRow hRe
    rcases b0 with ⟨⟨a, ha⟩, rfl⟩ | ⟨b, off, cap', es, f, hu, h2, h3, h4, h5, h6⟩
    · simp at hrow
    · have hne : rows ≠ [] := fun e => by rw [e] at hrow; simp at hrow
      have he : es = 13 := (h4 _ (List.mem_of_getElem? hrow)).symm.trans h13
      subst he
      obtain ⟨⟨a, m, c, ha⟩, hids⟩ := Pe.ids htv (h6 k row hrow 5 v hv5)
      have hc := h5 k row hrow 5 v hv5
      rw [ha] at hids hc
      simp only [Value.slice.injEq] at hu
      obtain ⟨rfl, _, _⟩ := hu
      exact ⟨b, off, a, m, c, rfl, (h3 hne).1, hc, hids⟩
  · rintro e W ⟨rfl, hB⟩
    exact Pe.post w A hA _ _ W hB
end Go.Proofs
