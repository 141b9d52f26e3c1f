/-
  Layer 16: vspace.Map: what its walk leans on. By an AI agent.
-/
import Derived.Test.YtcpdakiailaneaaCp
namespace Go.Proofs
open Go.RowKit Go.Shelf Go.AL
set_option linter.unusedVariables false
set_option linter.unusedSimpArgs false
/-! ### One argument -/
def ArgAt (w : World) (k : AK) (x : k.T) (u : Value) : Prop := ∃ v, ArgV k x v ∧ Rel ⟨w, fun _ => False, noH, noB⟩ v u
theorem ArgsAt.one {w : World} {k : AK} {x : k.T} {u : Value} (h : ArgAt w k x u) : ArgsAt w [k] x #[u] := by
  obtain ⟨v, h1, h2⟩ := h
  refine ⟨[v], ⟨v, rfl, h1⟩, rfl, fun i y hy => ?_⟩
  match i, hy with
  | 0, hy => simp at hy; subst hy; exact ⟨u, rfl, h2⟩
  | i + 1, hy => simp at hy
theorem ArgsAt.two {w : World} {k k2 : AK} {x : k.T} {y : k2.T} {u u2 : Value} (h : ArgAt w k x u) (h' : ArgAt w k2 y u2) : ArgsAt w [k, k2] (x, y) #[u, u2] := by
  obtain ⟨v, h1, h2⟩ := h
  obtain ⟨v', h3, h4⟩ := h'
  refine ⟨[v, v'], ⟨v, [v'], rfl, h1, v', rfl, h3⟩, rfl, fun i y hy => ?_⟩
  match i, hy with
  | 0, hy => simp at hy; subst hy; exact ⟨u, rfl, h2⟩
  | 1, hy => simp at hy; subst hy; exact ⟨u2, rfl, h4⟩
  | i + 2, hy => simp at hy
theorem Ns.relStep {w w' : World} {A A' : Nat → Prop} (hA : ∀ b, A b → b < w.heap.size) (hs : w.heap.size ≤ w'.heap.size) (hb : ∀ b, b < w.heap.size → w'.heap[b]? = w.heap[b]?) (hAA : ∀ b, b < w.heap.size → A' b → A b) {x : V} {u : Value}
    (h : Rel ⟨w, A, noH, noB⟩ x u) : Rel ⟨w', A', noH, noB⟩ x u := by
  have hob : ObsOK ⟨w, A, noH, noB⟩ := ⟨fun o ob h => (by cases h), fun o o' ob ob' b h => (by cases h), hA⟩
  have S : Step ⟨w, A, noH, noB⟩ ⟨w', A', noH, noB⟩ := ⟨fun b h _ => hb b h, hs, hAA, fun b _ h => by obtain ⟨o, ob, h, _⟩ := h; cases h⟩
  have := Rel.step hob S (K := fun _ => false) (fun p _ ob' h => by cases h) h
  rwa [V.kill_none] at this
theorem ArgAt.below {w w' : World} {k : AK} {x : k.T} {u : Value} (h : ArgAt w k x u) (hB : Below w.heap.size w w') : ArgAt w' k x u := by
  obtain ⟨v, h1, h2⟩ := h
  exact ⟨v, h1, Ns.relStep (fun _ h => h.elim) hB.size (fun b hb => hB.block b hb) (fun _ _ h => h) h2⟩
theorem ArgAt.int {w : World} {i : Int} : ArgAt w (.c (.int .i64)) i (.int .i64 i) := ⟨.int .i64 i, tyV_int.2 rfl, .int _ _⟩
abbrev capL (c : SCp) : List Value := [.int .i64 c.1, .int .i64 c.2.1, .int .i64 c.2.2.1, .int .i64 c.2.2.2.1, .int .i64 c.2.2.2.2.1, .int .i64 c.2.2.2.2.2.1, .bool c.2.2.2.2.2.2]
abbrev capV (c : SCp) : Value := .agg #[.int .i64 c.1, .int .i64 c.2.1, .int .i64 c.2.2.1, .int .i64 c.2.2.2.1, .int .i64 c.2.2.2.2.1, .int .i64 c.2.2.2.2.2.1, .bool c.2.2.2.2.2.2]
theorem Ns.cRow {c : SCp} {row : List V} : RowV tSCp c row = (∃ v0 r0, row = v0 :: r0 ∧ (v0 = .int .i64 c.1) ∧ ∃ v1 r1, r0 = v1 :: r1 ∧ (v1 = .int .i64 c.2.1) ∧ ∃ v2 r2, r1 = v2 :: r2 ∧ (v2 = .int .i64 c.2.2.1) ∧ ∃ v3 r3, r2 = v3 :: r3 ∧ (v3 = .int .i64 c.2.2.2.1) ∧
    ∃ v4 r4, r3 = v4 :: r4 ∧ (v4 = .int .i64 c.2.2.2.2.1) ∧ ∃ v5 r5, r4 = v5 :: r5 ∧ (v5 = .int .i64 c.2.2.2.2.2.1) ∧ ∃ v6, r5 = [v6] ∧ v6 = .bool c.2.2.2.2.2.2) := by kernel_rfl
theorem Ns.cRow_of (c : SCp) : RowV tSCp c ((capL c).map V.ofCell) := by
  rw [Ns.cRow]; exact ⟨_, _, rfl, rfl, _, _, rfl, rfl, _, _, rfl, rfl, _, _, rfl, rfl, _, _, rfl, rfl, _, _, rfl, rfl, _, rfl, rfl⟩
theorem Ns.relAgg {w : World} {A : Nat → Prop} {h : Nat → Option Ob} {β : Nat → Option Nat} {vs : Array Value} (hv : ∀ v ∈ vs.toList, v.oneCell' = true) : Rel ⟨w, A, h, β⟩ (.agg (vs.toList.map V.ofCell)) (.agg vs) :=
  ⟨vs, rfl, by simp, fun i x hx => by
    rw [List.getElem?_map, Option.map_eq_some_iff] at hx
    obtain ⟨u, hu, rfl⟩ := hx
    exact ⟨u, by simpa using hu, relP_ofCell u (hv u (List.mem_of_getElem? hu))⟩⟩
theorem ArgAt.cap (w : World) (c : SCp) : ArgAt w (.g tSCp) c (capV c) :=
  ⟨.agg ((capL c).map V.ofCell), ⟨_, rfl, Ns.cRow_of c⟩, Ns.relAgg (vs := #[.int .i64 c.1, .int .i64 c.2.1, .int .i64 c.2.2.1, .int .i64 c.2.2.2.1, .int .i64 c.2.2.2.2.1, .int .i64 c.2.2.2.2.2.1, .bool c.2.2.2.2.2.2]) (fun v hv => by
    simp only [List.mem_cons, List.not_mem_nil, or_false] at hv
    rcases hv with rfl | rfl | rfl | rfl | rfl | rfl | rfl <;> rfl)⟩
theorem Ns.cap_of {w : World} {A : Nat → Prop} {c : SCp} {row : List V} {u : Value} (hr : RowV tSCp c row) (h : Rel ⟨w, A, noH, noB⟩ (.agg row) u) : u = capV c := by
  rw [Ns.cRow] at hr
  obtain ⟨v0, r0, rfl, rfl, v1, r1, rfl, rfl, v2, r2, rfl, rfl, v3, r3, rfl, rfl, v4, r4, rfl, rfl, v5, r5, rfl, rfl, v6, rfl, rfl⟩ := hr
  obtain ⟨vs, rfl, hsz, hc⟩ := h
  obtain ⟨u0, a0, b0⟩ := hc 0 _ rfl
  obtain ⟨u1, a1, b1⟩ := hc 1 _ rfl
  obtain ⟨u2, a2, b2⟩ := hc 2 _ rfl
  obtain ⟨u3, a3, b3⟩ := hc 3 _ rfl
  obtain ⟨u4, a4, b4⟩ := hc 4 _ rfl
  obtain ⟨u5, a5, b5⟩ := hc 5 _ rfl
  obtain ⟨u6, a6, b6⟩ := hc 6 _ rfl
  cases b0; cases b1; cases b2; cases b3; cases b4; cases b5; cases b6
  obtain ⟨l⟩ := vs
  match l, hsz, a0, a1, a2, a3, a4, a5, a6 with
  | [x0, x1, x2, x3, x4, x5, x6], _, a0, a1, a2, a3, a4, a5, a6 =>
    simp at a0 a1 a2 a3 a4 a5 a6
    rw [a0, a1, a2, a3, a4, a5, a6]
abbrev ndV (n : SNd) (pv : Value) : Value := .agg #[.int .i64 n.1, .int .i64 n.2.1, .int .i64 n.2.2.1, pv, .int .i64 n.2.2.2.2.1, .int .i64 n.2.2.2.2.2.1, .int .i64 n.2.2.2.2.2.2.1, .int .i64 n.2.2.2.2.2.2.2.1, .int .i64 n.2.2.2.2.2.2.2.2.1, .int .i64 n.2.2.2.2.2.2.2.2.2.1, .bool n.2.2.2.2.2.2.2.2.2.2]
theorem Ns.nRow {n : SNd} {row : List V} : RowV tSNd n row = (∃ v0 r0, row = v0 :: r0 ∧ (v0 = .int .i64 n.1) ∧ ∃ v1 r1, r0 = v1 :: r1 ∧ (v1 = .int .i64 n.2.1) ∧ ∃ v2 r2, r1 = v2 :: r2 ∧ (v2 = .int .i64 n.2.2.1) ∧ ∃ v3 r3, r2 = v3 :: r3 ∧ TyV (.sl tSId) (npath n) v3 ∧ RowV tSCp (ncap n) r3) := by kernel_rfl
theorem Ns.nd_of {w : World} {A : Nat → Prop} {n : SNd} {row : List V} {u : Value} (hr : RowV tSNd n row) (h : Rel ⟨w, A, noH, noB⟩ (.agg row) u) : ∃ pv, u = ndV n pv ∧ pv.oneCell' = true := by
  rw [Ns.nRow] at hr
  obtain ⟨q0, s0, rfl, rfl, q1, s1, rfl, rfl, q2, s2, rfl, rfl, q3, s3, rfl, _, hr⟩ := hr
  rw [Ns.cRow] at hr
  obtain ⟨v0, r0, rfl, rfl, v1, r1, rfl, rfl, v2, r2, rfl, rfl, v3, r3, rfl, rfl, v4, r4, rfl, rfl, v5, r5, rfl, rfl, v6, rfl, rfl⟩ := hr
  obtain ⟨vs, rfl, hsz, hc⟩ := h
  obtain ⟨w0, c0, d0⟩ := hc 0 _ rfl
  obtain ⟨w1, c1, d1⟩ := hc 1 _ rfl
  obtain ⟨w2, c2, d2⟩ := hc 2 _ rfl
  obtain ⟨pv, c3, d3⟩ := hc 3 _ rfl
  obtain ⟨u0, a0, b0⟩ := hc 4 _ rfl
  obtain ⟨u1, a1, b1⟩ := hc 5 _ rfl
  obtain ⟨u2, a2, b2⟩ := hc 6 _ rfl
  obtain ⟨u3, a3, b3⟩ := hc 7 _ rfl
  obtain ⟨u4, a4, b4⟩ := hc 8 _ rfl
  obtain ⟨u5, a5, b5⟩ := hc 9 _ rfl
  obtain ⟨u6, a6, b6⟩ := hc 10 _ rfl
  have h1 := d3.oneCell
  cases b0; cases b1; cases b2; cases b3; cases b4; cases b5; cases b6; cases d0; cases d1; cases d2
  obtain ⟨l⟩ := vs
  match l, hsz, a0, a1, a2, a3, a4, a5, a6, c0, c1, c2, c3 with
  | [y0, y1, y2, y3, x0, x1, x2, x3, x4, x5, x6], _, a0, a1, a2, a3, a4, a5, a6, c0, c1, c2, c3 =>
    simp at a0 a1 a2 a3 a4 a5 a6 c0 c1 c2 c3
    rw [a0, a1, a2, a3, a4, a5, a6, c0, c1, c2, c3]
    exact ⟨pv, rfl, h1⟩
/-! ### Results that are numbers -/
theorem Ns.res_b {w : World} {A : Nat → Prop} {x : Bool} {rds : List RD} {w' : World} {us : List Value} {β' : Nat → Option Nat} {A' : Nat → Prop} (hr : RessV [.v .bool] x rds) (h : PostR w A rds w' us β' A') : packV us = .bool x ∧ Below w.heap.size w w' := by
  obtain ⟨rd, rfl, y, rfl, hy⟩ := (hr : ∃ rd, rds = [rd] ∧ ∃ y, rd = .v y ∧ TyV .bool x y)
  have hy : y = .bool x := tyV_bool.1 hy
  subst hy
  obtain ⟨u, h1, h2⟩ := h.rel 0 _ rfl
  have hl := h.len
  obtain ⟨u', rfl⟩ := List.length_eq_one_iff.1 (show us.length = 1 by simpa using hl)
  simp at h1; subst h1
  have h3 : RelP w' A' (.bool x) u' := h2
  cases h3
  exact ⟨rfl, ev_below' h.ev⟩
theorem Ns.res_i {w : World} {A : Nat → Prop} {x : Int} {rds : List RD} {w' : World} {us : List Value} {β' : Nat → Option Nat} {A' : Nat → Prop} (hr : RessV [.v (.int .i64)] x rds) (h : PostR w A rds w' us β' A') : packV us = .int .i64 x ∧ Below w.heap.size w w' := by
  obtain ⟨rd, rfl, y, rfl, hy⟩ := (hr : ∃ rd, rds = [rd] ∧ ∃ y, rd = .v y ∧ TyV (.int .i64) x y)
  have hy : y = .int .i64 x := tyV_int.1 hy
  subst hy
  obtain ⟨u, h1, h2⟩ := h.rel 0 _ rfl
  have hl := h.len
  obtain ⟨u', rfl⟩ := List.length_eq_one_iff.1 (show us.length = 1 by simpa using hl)
  simp at h1; subst h1
  have h3 : RelP w' A' (.int .i64 x) u' := h2
  cases h3
  exact ⟨rfl, ev_below' h.ev⟩
theorem Ns.res_ib {w : World} {A : Nat → Prop} {x : Int} {b : Bool} {rds : List RD} {w' : World} {us : List Value} {β' : Nat → Option Nat} {A' : Nat → Prop} (hr : RessV [.v (.int .i64), .v .bool] (x, b) rds) (h : PostR w A rds w' us β' A') : packV us = .tuple #[.int .i64 x, .bool b] ∧ Below w.heap.size w w' := by
  obtain ⟨rd, r, rfl, ⟨y, rfl, hy⟩, rd2, rfl, y2, rfl, hy2⟩ := (hr : ∃ rd r, rds = rd :: r ∧ (∃ y, rd = .v y ∧ TyV (.int .i64) x y) ∧ ∃ rd2, r = [rd2] ∧ ∃ y, rd2 = .v y ∧ TyV .bool b y)
  have hy : y = .int .i64 x := tyV_int.1 hy
  have hy2 : y2 = .bool b := tyV_bool.1 hy2
  subst hy; subst hy2
  obtain ⟨u, h1, h2⟩ := h.rel 0 _ rfl
  obtain ⟨v, h3, h4⟩ := h.rel 1 _ rfl
  have hl := h.len
  match us, hl, h1, h3 with
  | [p, q], _, h1, h3 =>
    simp at h1 h3; subst h1; subst h3
    have h5 : RelP w' A' (.int .i64 x) p := h2
    have h6 : RelP w' A' (.bool b) q := h4
    cases h5; cases h6
    exact ⟨rfl, ev_below' h.ev⟩
theorem Ns.callB {P : Program} {e : Ent} (h : e.Ok P) (a : ArgT e.ad) (hk : e.rk = [.v .bool]) (hp : e.pre a = true) {b : Bool} (hb : HEq (e.fn a) b) {w : World} {us : Array Value} (ha : ArgsAt w e.ad a us) :
    Calls P e.g us w fun en w' => en = .returned (.bool b) ∧ Below w.heap.size w w' :=
  (Ns.call h a hp ha).mono fun en w' ⟨rds, us', β', A', hr, he, hpost⟩ => by
    obtain ⟨g, ad, rk, pre, fn⟩ := e
    simp only at hk hb hr
    subst hk
    have := eq_of_heq hb
    rw [this] at hr
    obtain ⟨h1, h2⟩ := Ns.res_b hr hpost
    exact ⟨by rw [he, h1], h2⟩
theorem Ns.callI {P : Program} {e : Ent} (h : e.Ok P) (a : ArgT e.ad) (hk : e.rk = [.v (.int .i64)]) (hp : e.pre a = true) {b : Int} (hb : HEq (e.fn a) b) {w : World} {us : Array Value} (ha : ArgsAt w e.ad a us) :
    Calls P e.g us w fun en w' => en = .returned (.int .i64 b) ∧ Below w.heap.size w w' :=
  (Ns.call h a hp ha).mono fun en w' ⟨rds, us', β', A', hr, he, hpost⟩ => by
    obtain ⟨g, ad, rk, pre, fn⟩ := e
    simp only at hk hb hr
    subst hk
    have := eq_of_heq hb
    rw [this] at hr
    obtain ⟨h1, h2⟩ := Ns.res_i hr hpost
    exact ⟨by rw [he, h1], h2⟩
theorem Ns.callIB {P : Program} {e : Ent} (h : e.Ok P) (a : ArgT e.ad) (hk : e.rk = [.v (.int .i64), .v .bool]) (hp : e.pre a = true) {x : Int} {b : Bool} (hb : HEq (e.fn a) ((x, b) : Int × Bool)) {w : World} {us : Array Value} (ha : ArgsAt w e.ad a us) :
    Calls P e.g us w fun en w' => en = .returned (.tuple #[.int .i64 x, .bool b]) ∧ Below w.heap.size w w' :=
  (Ns.call h a hp ha).mono fun en w' ⟨rds, us', β', A', hr, he, hpost⟩ => by
    obtain ⟨g, ad, rk, pre, fn⟩ := e
    simp only at hk hb hr
    subst hk
    have := eq_of_heq hb
    rw [this] at hr
    obtain ⟨h1, h2⟩ := Ns.res_ib hr hpost
    exact ⟨by rw [he, h1], h2⟩
/-! ### Tables read through their own memory -/
theorem Nest.arg {W : World} {n0 : Nat} {out : Value} {R : List (SPT × Value)} (h : Nest W n0 out R) : ArgAt W (.rd tSPT) (R.map Prod.fst) out :=
  ⟨.rd (Ns.pV R), ⟨_, rfl, Ns.pV_rows R⟩, by
    have e : (Env.M ⟨W, fun _ => False, noH, noB⟩) = fun _ => False := by funext b; simp [Env.M, noH]
    show SlAt W (fun _ => False) (Env.M ⟨W, fun _ => False, noH, noB⟩) _ out
    rw [e]
    exact h.rel (fun _ _ _ _ h => h) (fun _ _ h => h)⟩
/-! ### Tables changed -/
theorem Ns.ps_len (R : List (SPT × Value)) : (Ns.ps R).length = R.length * 4 := flat_len (f := Ns.p) (k := 4) (fun _ => rfl) R
theorem Ns.ms_len (l : List SMp) : (Ns.ms l).length = l.length * 6 := flat_len (f := Ns.m) (k := 6) (fun _ => rfl) l
theorem InsOut.owns {w : World} {e k : Nat} {s0 : Value} {n' : Nat} {xs : List Value} {s' : Value} {w' : World} (h : InsOut w e k s0 n' xs s' w') {n0 : Nat} (h0 : ∀ g, s0.ownBlock = some g → n0 ≤ g) (hw : n0 ≤ w.heap.size) : w'.ownsRow n0 e k s' n' xs ∧
    (∀ g, s'.ownBlock = some g → s0.ownBlock = some g ∨ w.heap.size ≤ g) ∧ ∃ a c, s' = .slice a (n' : Nat) c := by
  obtain ⟨g, cap, cur, rfl, h1, h2, h3, h4, h5, h6⟩ := h.row
  refine ⟨⟨h.len, .inr ⟨g, cap, cur, rfl, ?_, h1, h2, h3, h4, h5⟩⟩, fun g' hg => ?_, _, _, rfl⟩
  · rcases h6 with h6 | h6
    · exact h0 g h6
    · omega
  · simp [Value.ownBlock] at hg
    subst hg; exact h6
theorem nest_outer {W : World} {n0 : Nat} {out : Value} {R R' : List (SPT × Value)} (h : Nest W n0 out R) (hw : n0 ≤ W.heap.size) {out' : Value} {W' : World} (hO : InsOut W tyP 4 out R'.length (Ns.ps R') out' W')
    (hR : ∀ p ∈ R', p ∈ R ∨ p.2 = .slice none 0 0 ∧ Ns.maps p.1 = []) (hd : R'.Pairwise fun p q => ∀ g, p.2.ownBlock = some g → q.2.ownBlock ≠ some g) : Nest W' n0 out' R' := by
  obtain ⟨h1, h2, _⟩ := InsOut.owns hO (fun g hg => (Own.lt h.own hg).1) hw
  refine ⟨h1, fun p hp => ?_, fun p hp g hg e => ?_, hd⟩
  · rcases hR p hp with hp | ⟨e1, e2⟩
    · exact Own.ev (h.inn p hp) hO.ev (fun g hg => h.ne p hp g hg)
    · rw [e1, e2]; exact ⟨rfl, .inl ⟨rfl, rfl⟩⟩
  · rcases hR p hp with hp | ⟨e1, e2⟩
    · rcases h2 g e with e | e
      · exact h.ne p hp g hg e
      · have := (Own.lt (h.inn p hp) hg).2; omega
    · rw [e1] at hg; cases hg
theorem nest_inner {W : World} {n0 : Nat} {g cap : Nat} {L M : List (SPT × Value)} {t : SPT} {v : Value} {n : Nat} (h : Nest W n0 (.slice (some ⟨g, 0, none⟩) n cap) (L ++ (t, v) :: M)) (hn : n = (L ++ (t, v) :: M).length) (hw : n0 ≤ W.heap.size) {l' : List SMp} {v' : Value} {W1 : World}
    (hO : InsOut W tyM 6 v l'.length (Ns.ms l') v' W1) : Nest (W1.setCell ⟨g, L.length * 4 + 3, none⟩ v') n0 (.slice (some ⟨g, 0, none⟩) n cap) (L ++ ((t.1, t.2.1, t.2.2.1, l'), v') :: M) ∧ W1.frozen? ⟨g, L.length * 4 + 3, none⟩ = false ∧ (∃ u, W1.cell? ⟨g, L.length * 4 + 3, none⟩ = some u) := by
  subst hn
  have hmem : (t, v) ∈ L ++ (t, v) :: M := by simp
  have hvl := fun b hb => Own.lt (h.inn _ hmem) (g := b) hb
  have hgv : v.ownBlock ≠ some g := fun e => h.ne _ hmem g e rfl
  obtain ⟨h1, h2, _⟩ := InsOut.owns hO (fun b hb => (hvl b hb).1) hw
  rcases h.own.2 with ⟨e, _⟩ | ⟨g', cap', cur, e1, e2, e3, e4, e5, e6, e7⟩
  · cases e
  simp only [Value.slice.injEq, Option.some.injEq, Addr.mk.injEq] at e1
  obtain ⟨⟨rfl, _⟩, _, rfl⟩ := e1
  have hgs : g < W.heap.size := (Array.getElem?_eq_some_iff.1 e3).1
  have hb1 : HB W1 g tyP cur := (hO.ev.block g hgs hgv).trans e3
  have hsz : (L ++ (t, v) :: M).length * 4 ≤ cur.size := by rw [e6]; exact Nat.mul_le_mul_right 4 e4
  have hL : L.length * 4 + 3 < (L ++ (t, v) :: M).length * 4 := by simp; omega
  have hv'g : v'.ownBlock ≠ some g := fun e => by
    rcases h2 g e with e | e
    · exact hgv e
    · omega
  have ev2 : Ev W1 (W1.setCell ⟨g, L.length * 4 + 3, none⟩ v') (fun b => b = g) := ⟨rfl, rfl, rfl, by simp [World.setCell], fun q hq hne => Below.heap_setCell W1 ⟨g, L.length * 4 + 3, none⟩ v' q hne⟩
  have hother : ∀ p ∈ L ++ (t, v) :: M, p ∈ L ∨ p ∈ M → ∀ b, p.2.ownBlock = some b → v.ownBlock ≠ some b := fun p _ hp b hb e => by
    have hd := h.dis
    rw [List.pairwise_append, List.pairwise_cons] at hd
    rcases hp with hp | hp
    · exact hd.2.2 p hp (t, v) (by simp) b hb e
    · exact hd.2.1.1 p hp b e hb
  have hin : ∀ p, p ∈ L ∨ p ∈ M → p ∈ L ++ (t, v) :: M := fun p hp => by simp; rcases hp with hp | hp <;> simp [hp]
  refine ⟨⟨⟨by rw [Ns.ps_len], .inr ⟨g, cap, _, by simp, e2, hb1.set _ v', by simpa using e4, e5, by rw [Array.size_setIfInBounds]; exact e6, ?_⟩⟩, fun p hp => ?_, fun p hp b hb e => ?_, ?_⟩, hb1.frozen _, ?_⟩
  · have hl : (L ++ ((t.1, t.2.1, t.2.2.1, l'), v') :: M).length = (L ++ (t, v) :: M).length := by simp
    rw [hl]
    have hp0 : Ns.ps (L ++ (t, v) :: M) = Ns.ps L ++ ([.int .i64 t.1, .int .i64 t.2.1, .int .i64 t.2.2.1] ++ v :: Ns.ps M) := by simp [Ns.ps, Ns.p]
    have hp1 : Ns.ps (L ++ ((t.1, t.2.1, t.2.2.1, l'), v') :: M) = Ns.ps L ++ ([.int .i64 t.1, .int .i64 t.2.1, .int .i64 t.2.2.1] ++ v' :: Ns.ps M) := by simp [Ns.ps, Ns.p]
    have hset : Ns.ps (L ++ ((t.1, t.2.1, t.2.2.1, l'), v') :: M) = (Ns.ps (L ++ (t, v) :: M)).set (L.length * 4 + 3) v' := by
      rw [hp0, hp1, List.set_append_right _ _ (by rw [Ns.ps_len]; omega), Ns.ps_len, show L.length * 4 + 3 - L.length * 4 = 3 by omega]; rfl
    rw [hset, ← e7, Array.toList_setIfInBounds, List.take_set]
  · have key : ∀ q, q ∈ L ∨ q ∈ M → (W1.setCell ⟨g, L.length * 4 + 3, none⟩ v').ownsRow n0 tyM 6 q.2 (Ns.maps q.1).length (Ns.ms (Ns.maps q.1)) := fun q hq =>
      Own.ev (Own.ev (h.inn q (hin q hq)) hO.ev (fun b hb => hother q (hin q hq) hq b hb)) ev2 (fun b hb e => h.ne q (hin q hq) b hb (by rw [e]; rfl))
    simp at hp
    rcases hp with hp | rfl | hp
    · exact key p (.inl hp)
    · exact Own.ev h1 ev2 (fun b hb e => hv'g (by rw [← e]; exact hb))
    · exact key p (.inr hp)
  · simp [Value.ownBlock] at e
    subst e
    simp at hp
    rcases hp with hp | rfl | hp
    · exact h.ne p (hin p (.inl hp)) g hb rfl
    · exact hv'g hb
    · exact h.ne p (hin p (.inr hp)) g hb rfl
  · have hd := h.dis
    have hlt : ∀ q, q ∈ L ∨ q ∈ M → ∀ b, q.2.ownBlock = some b → b < W.heap.size := fun q hq b hb => (Own.lt (h.inn q (hin q hq)) hb).2
    rw [List.pairwise_append, List.pairwise_cons] at hd ⊢
    refine ⟨hd.1, ⟨fun q hq b hb e => ?_, hd.2.1.2⟩, fun p hp q hq b hb e => ?_⟩
    · rcases h2 b hb with hb | hb
      · exact hother q (hin q (.inr hq)) (.inr hq) b e hb
      · have := hlt q (.inr hq) b e; omega
    · rcases List.mem_cons.1 hq with rfl | hq
      · rcases h2 b e with e | e
        · exact hother p (hin p (.inl hp)) (.inl hp) b hb e
        · have := hlt p (.inl hp) b hb; omega
      · exact hd.2.2 p hp q (by simp [hq]) b hb e
  · rw [hb1.cell]
    exact ⟨_, Array.getElem?_eq_getElem (by omega)⟩
end Go.Proofs
