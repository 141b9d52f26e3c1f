/-
  Layer 30: a queue in memory: appended to behind, taken from in front. By an AI agent.
-/
import Derived.Test.YtmdmmikpmhopkaaNv
import Derived.ArgAppend
import Derived.Test.YtmdmmikpmhopkaaKz
import Derived.Test.YtmdmmikpmhopkaaK17
import Derived.Deep.Cut
namespace Go.Proofs
open Go.RowKit Go.Shelf Go.AL
set_option linter.unusedVariables false
set_option linter.unusedSimpArgs false
def Kq.Q (w : World) (n0 S : Nat) (B : Option Nat) (v : Value) (q : List Int) : Prop :=
  (B = none ∧ q = [] ∧ v = .slice none 0 0) ∨
  ∃ b off cap cur, B = some b ∧ b ≠ S ∧ n0 ≤ b ∧ v = .slice (some ⟨b, off, none⟩) q.length cap ∧ q.length ≤ cap ∧ HB w b tyM cur ∧ off + cap ≤ cur.size ∧ ∀ (j : Nat) (x : Int), q[j]? = some x → cur[off + j]? = some (.int .i64 x)
theorem Kq.Q.ev {w w' : World} {n0 S : Nat} {B : Option Nat} {v : Value} {q : List Int} (h : Kq.Q w n0 S B v q) {X : Nat → Prop} (hev : Ev w w' X) (hX : ∀ b, B = some b → ¬ X b) : Kq.Q w' n0 S B v q := by
  rcases h with h | ⟨b, off, cap, cur, h1, h2, h3, h4, h5, h6, h7⟩
  · exact .inl h
  · exact .inr ⟨b, off, cap, cur, h1, h2, h3, h4, h5, h6.ev hev (hX b h1), h7⟩
theorem Kq.Q.lt {w : World} {n0 S : Nat} {B : Option Nat} {v : Value} {q : List Int} (h : Kq.Q w n0 S B v q) {b : Nat} (hb : B = some b) : n0 ≤ b ∧ b < w.heap.size ∧ b ≠ S := by
  rcases h with ⟨h1, _⟩ | ⟨b', off, cap, cur, h1, h2, h3, h4, h5, h6, h7⟩
  · rw [h1] at hb; cases hb
  · rw [h1] at hb; cases hb; exact ⟨h3, h6.lt, h2⟩
theorem Kq.new {w w' : World} {n0 S : Nat} {q : List Int} {v : Value} (hn : n0 ≤ w.heap.size) (hS : S < w.heap.size) (h0 : q ≠ []) (h : w'.ownsRow w.heap.size tyM 1 v q.length (q.map fun x => (.int .i64 x : Value))) : ∃ B, Kq.Q w' n0 S B v q ∧ ∀ b, B = some b → w.heap.size ≤ b := by
  rcases h.2 with ⟨_, h1⟩ | ⟨g, cap, cur, e1, e2, e3, e4, _, e5, e6⟩
  · exact absurd (List.length_eq_zero_iff.1 h1) h0
  · refine ⟨some g, .inr ⟨g, 0, cap, cur, rfl, by omega, by omega, e1, e4, e3, by omega, fun j x hx => ?_⟩, fun b hb => by cases hb; exact e2⟩
    have hj : j < q.length := (List.getElem?_eq_some_iff.1 hx).1
    have h2 : (cur.toList.take (q.length * 1))[j]? = some (.int .i64 x) := by rw [e6, List.getElem?_map, hx]; rfl
    rw [List.getElem?_take, if_pos (by omega)] at h2
    rw [Nat.zero_add]
    simpa using h2
theorem Kq.app {w : World} {n0 S : Nat} {B : Option Nat} {v : Value} {q : List Int} (h : Kq.Q w n0 S B v q) (e : Int) {bx : Nat} (hx : HB w bx tyM #[.int .i64 e]) (hl : q.length ≤ 1000) (hS : S < w.heap.size) (hn : n0 ≤ w.heap.size) :
    ∃ v' w', (Builtin.append_ #[22, 22] 22 #[v, .slice (some ⟨bx, 0, none⟩) 1 1]).run Try.prog w = .ok v' w' ∧ ∃ B', Kq.Q w' n0 S B' v' (q ++ [e]) ∧ Ev w w' (fun b => B = some b) ∧ ∀ b, B' = some b → B = some b ∨ w.heap.size ≤ b := by
  obtain ⟨i0, hi0, hz0, hz1, hz2⟩ := info_parts Nq.infoI
  have hu4t := Try.underlying22
  have hnews : ∀ j u, [(.int .i64 e : Value)][j]? = some u → w.cell? ((⟨bx, 0, none⟩ : Addr).add j) = some u := World.news_of_block hx
  have h1 : ∀ u ∈ [(.int .i64 e : Value)], u.oneCell' = true := fun u hu => by rw [List.mem_singleton.1 hu]; rfl
  rcases h with ⟨rfl, rfl, rfl⟩ | ⟨b, off, cap, cur, rfl, h2, h3, rfl, h5, h6, h7, h8⟩
  · obtain ⟨g, cap, w', hr, hown, hgrow, hat, hlt⟩ := run_append_lies (P := Try.prog) w 22 22 w.heap.size tyM i0 _ 1 8 hu4t hi0 hz0 hz1 hz2 rfl (by omega) (.slice none 0 0) 0 [] (World.ownsRow_nil w _ tyM 1) ⟨bx, 0, none⟩ 1 1 [.int .i64 e] rfl hnews h1 (by omega) (by simp only [maxLen]; omega) (by omega) (Nat.le_refl _) w.heap.size rfl
    obtain ⟨B', g1, g2⟩ := Kq.new (w := w) (S := S) hn hS (q := [e]) (by simp) hown
    exact ⟨_, w', hr, B', g1, ⟨hgrow.os, hgrow.tape, hgrow.output, hgrow.size, fun k hk _ => hgrow.block k hk (by simp [Value.ownBlock])⟩, fun b hb => .inr (g2 b hb)⟩
  · by_cases hroom : q.length + 1 ≤ cap
    · have hcell : ∀ j, j < [(.int .i64 e : Value)].length → (w.cell? ⟨b, off + q.length * i0.size + j, none⟩).isSome = true := fun j hj => by
        rw [h6.cell, hz1]
        simp at hj
        rw [Array.getElem?_eq_getElem (by omega)]; rfl
      have hr := run_append_room_cells (P := Try.prog) w 22 22 tyM i0 hu4t hi0 b off q.length cap ⟨bx, 0, none⟩ 1 1 [.int .i64 e] (by rw [hz1]; rfl) hnews h1 hroom hcell (fun j _ => h6.frozen _)
      rw [hz1, Nat.mul_one] at hr
      have hse : w.setCells b (off + q.length) [(.int .i64 e : Value)] = w.setCell ⟨b, off + q.length, none⟩ (.int .i64 e) := rfl
      rw [hse] at hr
      refine ⟨_, _, hr, some b, .inr ⟨b, off, cap, cur.setIfInBounds (off + q.length) (.int .i64 e), rfl, h2, h3, by simp, by simp; omega, h6.set _ _, by simpa using h7, fun j x hj => ?_⟩, ⟨rfl, rfl, rfl, by simp [World.setCell], fun k hk hne => Below.heap_setCell _ ⟨b, off + q.length, none⟩ _ k (fun e => hne (by rw [e]))⟩, fun b' hb' => .inl hb'⟩
      rw [Array.getElem?_setIfInBounds]
      by_cases hj2 : j < q.length
      · rw [if_neg (by omega)]
        exact h8 j x (by rw [List.getElem?_append_left hj2] at hj; exact hj)
      · have hje : j = q.length := by
          have := (List.getElem?_eq_some_iff.1 hj).1
          simp at this; omega
        subst hje
        rw [List.getElem?_append_right (Nat.le_refl _), Nat.sub_self] at hj
        simp at hj
        subst hj
        rw [if_pos rfl, if_pos (by omega)]
    · obtain ⟨v', w', hr, hown, hgrow⟩ := run_append_arg_grows (P := Try.prog) w 22 22 tyM i0 _ 1 8 hu4t hi0 hz0 hz1 hz2 rfl (by omega) ⟨b, off, none⟩ q.length cap (q.map fun x => (.int .i64 x : Value)) (by simp) (fun j u hu => by
          rw [List.getElem?_map] at hu
          cases hq : q[j]? with
          | none => rw [hq] at hu; cases hu
          | some x =>
            rw [hq] at hu
            cases hu
            rw [Addr.add_mid, h6.cell]
            exact h8 j x hq) ⟨bx, 0, none⟩ 1 1 [.int .i64 e] rfl hnews (by omega) (by simp only [maxLen]; omega) (by omega)
      obtain ⟨B', g1, g2⟩ := Kq.new (w := w) (S := S) hn hS (q := q ++ [e]) (by simp) (by rw [List.map_append, List.length_append]; exact hown)
      exact ⟨v', w', hr, B', g1, ⟨hgrow.os, hgrow.tape, hgrow.output, hgrow.size, fun k hk _ => hgrow.block k hk (by simp)⟩, fun b hb => .inr (g2 b hb)⟩
theorem Kq.wpApp {P : Program} {w : World} {ops : Array Oper} {rest : List Oper} {o : Oper} {a : Act} {Q : Exit → Act → World → Prop} (hgd : o.guard = none) (s x : Operand) (t : TypeId)
    (ho : o.op = .call { callee := .builtin .append, args := #[s, x], argTypes := #[t, t] }) (hty : o.type = t) {v y : Value} (hs : a.eval s = v) (hx : a.eval x = y) {R : Value → World → Prop}
    (hr : ∃ v' w', (Builtin.append_ #[t, t] t #[v, y]).run P w = .ok v' w' ∧ R v' w') (h : ∀ v' w', R v' w' → wpList P ops Q rest (a.put o.dst v') w') : wpList P ops Q (o :: rest) a w := by
  refine wpList_plain hgd fun _ hK => ?_
  obtain ⟨v', w', h1, h2⟩ := hr
  unfold Oper.wp execOp
  simp only [ho, hty, resolve, invoke, builtin, Sem.run_bind, Sem.run_pure, Result.andThen_ok, List.map_toArray, List.map_cons, List.map_nil, hs, hx, h1]
  exact hK _ _ (h v' w' h2)
end Go.Proofs
/-
  Layer 30 (sched): SchedUpcalls, at the plain level. By an AI agent.
-/
namespace Go.AL
open Go.Proofs
set_option linter.unusedVariables false
set_option linter.unusedSimpArgs false
set_option maxHeartbeats 4000000
theorem chg_form2 {s : SSd} {id : Int} {f : SDs → List SDs × Int} (h0 : (chgS s id f).2 = 0) : ∃ A d B, s.2.2 = A ++ d :: B ∧ d.1 = id ∧ dRem d = false ∧ vdiS (d, s.1, s.2.1) = true ∧ (f d).2 = 0 ∧ (chgS s id f).1 = (s.1, s.2.1, A ++ (f d).1 ++ B) := by
  unfold chgS at h0 ⊢
  cases hv : valS s
  case false => rw [hv] at h0; exact absurd h0 (by show ¬ (74 : Int) = 0; omega)
  cases ho : decide (opnI id s.2.2 0 < 0)
  case true => rw [hv, ho] at h0; exact absurd h0 (by show ¬ (17 : Int) = 0; omega)
  obtain ⟨A, d, B, e1, e2, e3, e4, vd, hg, hs, ht, hd, k2, k3⟩ := chg_cases hv ho
  rw [hv, ho] at h0
  rw [e2, Int.toNat_natCast, hg zDs] at h0 ⊢
  rw [ht, hd]
  cases hz : decide ((f d).2 = 0)
  case false =>
    rw [hz] at h0
    exact absurd h0 (of_decide_eq_false hz)
  exact ⟨A, d, B, e1, e3, e4, vd, of_decide_eq_true hz, rfl⟩
theorem add_form2 (a : SSd × Int × Int × Int × Int) (h0 : (addS a).2 = 0) : a.1.2.2.any (fun d => decide (d.1 = a.2.1)) = false ∧ (addS a).1 = (a.1.1, a.1.2.1, insL (newDs a.1 a.2.1 a.2.2.1 a.2.2.2.1 a.2.2.2.2) a.1.2.2) := by
  unfold addS at h0 ⊢
  cases hv : valS a.1
  case false => rw [hv] at h0; exact absurd h0 (by show ¬ (74 : Int) = 0; omega)
  rw [hv] at h0
  cases h1 : vdiS (newDs a.1 a.2.1 a.2.2.1 a.2.2.2.1 a.2.2.2.2, a.1.1, a.1.2.1)
  case false => rw [h1] at h0; exact absurd h0 (by show ¬ (1 : Int) = 0; omega)
  cases h2 : a.1.2.2.any (fun d => decide (d.1 = a.2.1))
  case true => rw [h1, h2] at h0; exact absurd h0 (by show ¬ (56 : Int) = 0; omega)
  cases h3 : decide (utS (insL (newDs a.1 a.2.1 a.2.2.1 a.2.2.2.1 a.2.2.2.2) a.1.2.2) > 1024)
  case true => rw [h1, h2, h3] at h0; exact absurd h0 (by show ¬ (15 : Int) = 0; omega)
  exact ⟨rfl, rfl⟩
def UpD (id : Int) (q : List Int) (b : Bool) (d : SDs) : Prop := d.1 = id → dRem d = false → ups d = q ∧ dDis d = b
def UpI (s : SSd) (id : Int) (q : List Int) (b : Bool) : Prop := ∀ d ∈ s.2.2, UpD id q b d
theorem UpD.other {id : Int} {q q' : List Int} {b b' : Bool} {d : SDs} (h : d.1 ≠ id) : UpD id q' b' d := fun e => absurd e h
theorem upI_rep {A B r : List SDs} {d : SDs} {id : Int} {q q' : List Int} {b b' : Bool} (hs : (A ++ d :: B).Pairwise (fun a b => a.1 < b.1)) (h : ∀ e ∈ A ++ d :: B, UpD id q b e) (ho : d.1 ≠ id → q' = q ∧ b' = b) (hr : ∀ e ∈ r, UpD id q' b' e) : ∀ e ∈ A ++ r ++ B, UpD id q' b' e := by
  rw [List.pairwise_append] at hs
  obtain ⟨h1, h2, h3⟩ := hs
  rw [List.pairwise_cons] at h2
  have other : ∀ e ∈ A ++ d :: B, e.1 ≠ d.1 → UpD id q' b' e := fun e he hne => by
    by_cases hd : d.1 = id
    · exact .other (q := q) (b := b) (by rw [← hd]; exact hne)
    · obtain ⟨rfl, rfl⟩ := ho hd; exact h e he
  intro e he
  rcases List.mem_append.1 he with he | he
  · rcases List.mem_append.1 he with he | he
    · have := h3 e he d (List.mem_cons_self ..)
      exact other e (List.mem_append_left _ he) (by omega)
    · exact hr e he
  · have := h2.1 e he
    exact other e (by simp [he]) (by omega)
def upQ (x : SSp) (id : Int) (q : List Int) : List Int := bif !decide (plc (x.2.1, 8) = id) then q else bif decide (plc (x.1, 10) = 0) || (decide (plc (x.1, 10) = 1) || decide (plc (x.1, 10) = 2)) then [] else bif decide (plc (x.1, 10) = 5) then q ++ [1 + plc (x.2.2.1, 100)] else q
def upB2 (x : SSp) (id : Int) (b : Bool) : Bool := bif !decide (plc (x.2.1, 8) = id) then b else bif decide (plc (x.1, 10) = 0) || (decide (plc (x.1, 10) = 1) || decide (plc (x.1, 10) = 2)) then false else bif decide (plc (x.1, 10) = 6) then false else b
theorem UpI.chg {s : SSd} {id : Int} {q q' : List Int} {b b' : Bool} (hv : valS s = true) (h : UpI s id q b) {k : Int} {f : SDs → List SDs × Int} (h0 : (chgS s k f).2 = 0) (ho : k ≠ id → q' = q ∧ b' = b)
    (hf : ∀ d, (f d).2 = 0 → d.1 = k → dRem d = false → UpD id q b d → ∀ e ∈ (f d).1, UpD id q' b' e) : UpI (chgS s k f).1 id q' b' := by
  have V := (valS_iff s).1 hv
  obtain ⟨A, d, B, e1, e2, e3, e4, e5, e6⟩ := chg_form2 h0
  unfold UpI
  rw [e6]
  exact upI_rep (d := d) (q := q) (b := b) (by rw [← e1]; exact V.srt) (by rw [← e1]; exact h) (by rw [e2]; exact ho) (hf d e5 e2 e3 (h d (by rw [e1]; simp)))
theorem UpI.doo {s : SSd} {id : Int} {q : List Int} {b : Bool} (hv : valS s = true) (h : UpI s id q b) {x : SSp} (hn : nitS x = 0) (h0 : (doS (s, x)).2 = 0) : UpI (doS (s, x)).1 id (upQ x id q) (upB2 x id b) := by
  have addc : ∀ w p c, (addS (s, plc (x.2.1, 8), w, p, c)).2 = 0 → (plc (x.1, 10) = 0 ∨ plc (x.1, 10) = 1) → UpI (addS (s, plc (x.2.1, 8), w, p, c)).1 id (upQ x id q) (upB2 x id b) := fun w p c h0 hk => by
    obtain ⟨a1, a2⟩ := add_form2 _ h0
    have ek : (decide (plc (x.1, 10) = 0) || (decide (plc (x.1, 10) = 1) || decide (plc (x.1, 10) = 2))) = true := by
      rcases hk with hk | hk <;> rw [hk] <;> rfl
    intro e he
    rw [a2] at he
    unfold upQ upB2
    rw [ek]
    by_cases hid : plc (x.2.1, 8) = id
    · rw [decide_eq_true hid]
      rcases ins_mem.1 he with rfl | he
      · exact fun _ _ => ⟨rfl, rfl⟩
      · refine .other (q := q) (b := b) fun hq => ?_
        rw [List.any_eq_false] at a1
        have := a1 e he
        simp at this
        exact this (hq.trans hid.symm)
    · rw [decide_eq_false hid]
      rcases ins_mem.1 he with rfl | he
      · exact .other (q := q) (b := b) hid
      · exact h e he
  rcases kind7 hn with k | k | k | k | k | k | k
  · rw [doS_0 k] at h0 ⊢; exact addc _ _ _ h0 (.inl k)
  · rw [doS_1 k] at h0 ⊢; exact addc _ _ _ h0 (.inr k)
  all_goals
    unfold upQ upB2
    rw [k]
  · rw [doS_2 k] at h0 ⊢
    refine h.chg hv h0 (fun hne => by rw [decide_eq_false hne]; exact ⟨rfl, rfl⟩) fun d _ hd hr hu e he => ?_
    unfold remF at he
    cases hw : decide (dW d = 0) <;> rw [hw] at he
    · cases he
    · rw [List.mem_singleton.1 he]
      exact fun _ h2 => absurd h2 (by show ¬ true = false; decide)
  · rw [doS_3 k] at h0 ⊢
    refine h.chg hv h0 (fun hne => by rw [decide_eq_false hne]; exact ⟨rfl, rfl⟩) fun d _ hd hr hu e he => ?_
    rw [List.mem_singleton.1 he]
    cases hb : decide (plc (x.2.1, 8) = id) <;> exact hu
  · rw [doS_4 k] at h0 ⊢
    refine h.chg hv h0 (fun hne => by rw [decide_eq_false hne]; exact ⟨rfl, rfl⟩) fun d _ hd hr hu e he => ?_
    rw [List.mem_singleton.1 he]
    unfold wakD
    cases hb : decide (plc (x.2.1, 8) = id) <;> cases dBlk d <;> cases decide (dW d = 0) <;> exact hu
  · rw [doS_5 k] at h0 ⊢
    refine h.chg hv h0 (fun hne => by rw [decide_eq_false hne]; exact ⟨rfl, rfl⟩) fun d hz hd hr hu e he => ?_
    unfold pstF at hz he
    cases h1 : decide (1 + plc (x.2.2.1, 100) ≤ 0)
    · rw [h1] at hz he
      cases h2 : decide ((ups d).length ≥ 16)
      · rw [h2] at hz he
        rw [List.mem_singleton.1 he]
        cases hb : decide (plc (x.2.1, 8) = id)
        · exact .other (q := q) (b := b) (by show d.1 ≠ id; rw [hd]; exact of_decide_eq_false hb)
        · intro e1 e2
          obtain ⟨g1, g2⟩ := hu e1 e2
          exact ⟨by show ups d ++ _ = q ++ _; rw [g1], g2⟩
      · rw [h2] at hz; exact absurd hz (by show ¬ (65 : Int) = 0; omega)
    · rw [h1] at hz; exact absurd hz (by show ¬ (1 : Int) = 0; omega)
  · rw [doS_6 k] at h0 ⊢
    refine h.chg hv h0 (fun hne => by rw [decide_eq_false hne]; exact ⟨rfl, rfl⟩) fun d _ hd hr hu e he => ?_
    rw [List.mem_singleton.1 he]
    cases hb : decide (plc (x.2.1, 8) = id)
    · exact .other (q := q) (b := b) (by show d.1 ≠ id; rw [hd]; exact of_decide_eq_false hb)
    · intro e1 e2
      exact ⟨(hu e1 e2).1, rfl⟩
def upW (q : List Int) (b : Bool) : Int × Int := bif b then (2, 0) else match q with
  | [] => (1, 0)
  | e :: _ => (3, e)
def upQ2 (q : List Int) (b : Bool) : List Int := bif b then q else q.tail
def upB3 (q : List Int) (b : Bool) : Bool := b || !q.isEmpty
theorem upD_ren {T : Int} {id : Int} {q : List Int} {b : Bool} {d : SDs} (h : UpD id q b d) : UpD id q b (renS T d) := by
  unfold renS
  cases decide (dW d = 0) && decide (dDl d = T) <;> exact h
theorem upD_ent {id : Int} {q : List Int} {b : Bool} {d : SDs} (h : ups d = q ∧ dDis d = b) : (entD (chgD d)).2 = upW q b ∧ UpD id (upQ2 q b) (upB3 q b) (entD (chgD d)).1 := by
  have hc : ups (chgD d) = ups d ∧ dDis (chgD d) = dDis d := by unfold chgD; cases decide (dW d = 0) <;> exact ⟨rfl, rfl⟩
  obtain ⟨h1, h2⟩ := h
  rw [← h1, ← h2, ← hc.1, ← hc.2]
  generalize chgD d = c
  unfold entD upW upQ2 upB3
  cases hd : dDis c
  · rw [cond_false, cond_false, cond_false]
    cases hu : ups c with
    | nil => exact ⟨rfl, fun _ _ => ⟨hu, hd⟩⟩
    | cons e r => exact ⟨rfl, fun _ _ => ⟨rfl, rfl⟩⟩
  · exact ⟨rfl, fun _ _ => ⟨rfl, hd⟩⟩
theorem UpI.tick {s : SSd} {id : Int} {q : List Int} {b : Bool} {t : Nat} (h : UpI s id q b) (hs : Sc s t) (ht : t < 4800) (hid : 0 ≤ id) :
    (tckS s).2.2.2.2 = 0 ∧ ((tckS s).2.2.1 = 3 ↔ (tckS s).2.2.2.1 ≠ 0) ∧ Sc (tckS s).1 (t + 1) ∧ (((tckS s).2.1 ≠ id ∧ UpI (tckS s).1 id q b) ∨ ((tckS s).2.1 = id ∧ ((tckS s).2.2.1, (tckS s).2.2.2.1) = upW q b ∧ UpI (tckS s).1 id (upQ2 q b) (upB3 q b))) := by
  obtain ⟨k1, k2, k3, k4, k5⟩ := hs.tick ht
  have V := (valS_iff s).1 hs.val
  have ren : ∀ {q' : List Int} {b' : Bool} {l : List SDs}, (∀ e ∈ l, UpD id q' b' e) → ∀ e ∈ tckL (s.1 + 1) l, UpD id q' b' e := fun {q' b' l} hl e he => by
    rw [tckL_eq] at he
    obtain ⟨d, hd, rfl⟩ := List.mem_map.1 he
    exact upD_ren (hl d (List.mem_filter.1 hd).1)
  refine ⟨k1, ?_, k2, ?_⟩ <;> rw [k5]
  · show (runS s).2.2.2.1 = 3 ↔ (runS s).2.2.2.2 ≠ 0
    have key : ∀ A d B, s.2.2 = A ++ d :: B → chS s.2.2 = ((A.length : Nat) : Int) → ((runS s).2.2.2.1 = 3 ↔ (runS s).2.2.2.2 ≠ 0) := fun A d B e1 e2 => by
      have g1 : s.2.2.getD A.length zDs = d := by rw [e1]; simp
      have hv := V.all d (by rw [e1]; simp)
      simp only [vdiS, upB, Bool.and_eq_true, List.all_eq_true, decide_eq_true_eq] at hv
      have hp := hv.2.2.1.2
      unfold runS
      rw [e2, Int.toNat_natCast, g1, decide_eq_false (show ¬ ((A.length : Nat) : Int) < 0 by omega), cond_false]
      have e3 := (upD_ent (id := id) (d := d) ⟨rfl, rfl⟩).1
      show (entD (chgD d)).2.1 = 3 ↔ (entD (chgD d)).2.2 ≠ 0
      rw [e3]
      unfold upW
      cases dDis d
      · rw [cond_false]
        cases hu : ups d with
        | nil => simp
        | cons e r =>
          have := hp e (by rw [hu]; simp)
          simp; omega
      · simp
    rcases ch_best s.2.2 with ⟨e0, e1, e2⟩ | ⟨A, d, B, e1, e2, _⟩ | ⟨A, d, B, e1, e2, _⟩
    · unfold runS
      rw [decide_eq_true e0]
      simp
    · exact key A d B e1 e2
    · exact key A d B e1 e2
  · show ((runS s).2.2.1 ≠ id ∧ ∀ e ∈ tckL (s.1 + 1) (runS s).1, UpD id q b e) ∨ ((runS s).2.2.1 = id ∧ (runS s).2.2.2 = upW q b ∧ ∀ e ∈ tckL (s.1 + 1) (runS s).1, UpD id (upQ2 q b) (upB3 q b) e)
    have key : ∀ A d B, s.2.2 = A ++ d :: B → dRem d = false → chS s.2.2 = ((A.length : Nat) : Int) → ((runS s).2.2.1 ≠ id ∧ ∀ e ∈ tckL (s.1 + 1) (runS s).1, UpD id q b e) ∨ ((runS s).2.2.1 = id ∧ (runS s).2.2.2 = upW q b ∧ ∀ e ∈ tckL (s.1 + 1) (runS s).1, UpD id (upQ2 q b) (upB3 q b) e) := fun A d B e1 hr e2 => by
      have g1 : s.2.2.getD A.length zDs = d := by rw [e1]; simp
      have er : runS s = (A ++ [(entD (chgD d)).1] ++ B, (runS s).2.1, d.1, (entD (chgD d)).2) := by
        unfold runS
        rw [e2, Int.toNat_natCast, g1, decide_eq_false (show ¬ ((A.length : Nat) : Int) < 0 by omega), cond_false]
        show (s.2.2.set A.length (entD (chgD d)).1, _, _, _, _) = _
        rw [e1, set_mid]
      rw [er]
      have i1 : (entD (chgD d)).1.1 = d.1 := by
        have hc : (chgD d).1 = d.1 := by unfold chgD; cases decide (dW d = 0) <;> rfl
        rw [← hc]
        generalize chgD d = c
        unfold entD
        cases dDis c
        · rw [cond_false]; cases ups c <;> rfl
        · rfl
      have hs2 : (A ++ d :: B).Pairwise (fun a b => a.1 < b.1) := by rw [← e1]; exact V.srt
      have hall : ∀ e ∈ A ++ d :: B, UpD id q b e := by rw [← e1]; exact h
      by_cases hd : d.1 = id
      · obtain ⟨u1, u2⟩ := h d (by rw [e1]; simp) hd hr
        obtain ⟨v1, v2⟩ := upD_ent (id := id) ⟨u1, u2⟩
        exact .inr ⟨hd, v1, ren (upI_rep hs2 hall (fun hne => absurd hd hne) fun e he => by rw [List.mem_singleton.1 he]; exact v2)⟩
      · exact .inl ⟨hd, ren (upI_rep hs2 hall (fun _ => ⟨rfl, rfl⟩) fun e he => by rw [List.mem_singleton.1 he]; exact .other (q := q) (b := b) (by rw [i1]; exact hd))⟩
    rcases ch_best s.2.2 with ⟨e0, e1, e2⟩ | ⟨A, d, B, e1, e2, hm, _⟩ | ⟨A, d, B, e1, e2, hm, _⟩
    · have er : runS s = (s.2.2, s.2.1, -1, 0, 0) := by unfold runS; rw [decide_eq_true e0]; rfl
      rw [er]
      exact .inl ⟨by show (-1 : Int) ≠ id; omega, ren h⟩
    · simp only [mayR, Bool.and_eq_true, Bool.not_eq_true'] at hm
      exact key A d B e1 hm.2.1 e2
    · have hv := V.all d (by rw [e1]; simp)
      simp only [mayB, Bool.and_eq_true, Bool.not_eq_true'] at hm
      simp only [vdiS, corB, hm.1, cond_false, beB, Bool.and_eq_true, Bool.not_eq_true'] at hv
      exact key A d B e1 hv.2.2.2.2.2.2.2.2.2.2.2.2 e2
theorem UpI.zero (id : Int) : UpI (0, 0, []) id [] false := fun d hd => by cases hd
end Go.AL
/-
  Layer 30: SchedUpcalls: the calls that its walk makes. By an AI agent.
-/
namespace Go.Proofs
open Go.RowKit Go.Shelf Go.AL
set_option linter.unusedVariables false
set_option linter.unusedSimpArgs false
def Kq.SV (w : World) (X : Nat → Prop) (s : SSd) (u : Value) : Prop := u.oneCell' = true ∧ ∃ rows, RowsV tSDs s.2.2 rows ∧ SlAt w X X rows u
theorem Kq.SV.frame {w w' : World} {X X' Y : Nat → Prop} {s : SSd} {u : Value} (h : Kq.SV w X s u) (hev : Ev w w' Y) (hY : ∀ b, b < w.heap.size → Y b → X b) (hX : ∀ b, b < w.heap.size → X' b → X b) : Kq.SV w' X' s u := by
  obtain ⟨h1, rows, h2, h3⟩ := h
  have ha : Agree X w w' := fun b hb hn => hev.block b hb (fun hy => hn (hY b hb hy))
  exact ⟨h1, rows, h2, h3.frame ha ha hev.size hX hX⟩
theorem Kq.SV.below {w w' : World} {X : Nat → Prop} {s : SSd} {u : Value} (h : Kq.SV w X s u) (hb : Below w.heap.size w w') : Kq.SV w' X s u :=
  h.frame (below_ev hb) (fun b h1 h2 => by omega) (fun _ _ h => h)
theorem Kq.SV.arg {w : World} {X : Nat → Prop} {s : SSd} {u : Value} (h : Kq.SV w X s u) : ∃ v, ArgV (.g tSSd) s v ∧ Rel ⟨w, X, noH, noB⟩ v (.agg (Nc.s s.1 s.2.1 u)) := by
  obtain ⟨h1, rows, h2, h3⟩ := h
  refine ⟨.agg [.int .i64 s.1, .int .i64 s.2.1, .sl rows], ⟨_, rfl, ?_⟩, ⟨_, rfl, rfl, fun j x hx => ?_⟩⟩
  · rw [Nr.sRow]
    exact ⟨_, _, rfl, rfl, _, _, rfl, rfl, _, rfl, by rw [Nr.slV]; exact .inr ⟨_, rfl, h2⟩⟩
  · match j, hx with
    | 0, hx => simp at hx; subst hx; exact ⟨_, rfl, .int _ _⟩
    | 1, hx => simp at hx; subst hx; exact ⟨_, rfl, .int _ _⟩
    | 2, hx => simp at hx; subst hx; exact ⟨_, rfl, relP_sl.2 h3⟩
    | j + 3, hx => simp at hx
theorem Kq.SV.res {w w' : World} {X A' : Nat → Prop} {rds : List RD} {us : List Value} {β' : Nat → Option Nat} (hX : ∀ b, X b → b < w.heap.size) (hp : PostR w X rds w' us β' A') {s : SSd} {row : List V} (hr : RowV tSSd s row) {u0 : Value} (hrel : RelA ⟨w', A', rdH rds, β'⟩ (.agg row) u0) :
    ∃ u, u0 = .agg (Nc.s s.1 s.2.1 u) ∧ Kq.SV w' X s u := by
  have hrel2 : Rel ⟨w', A', noH, noB⟩ (.agg row) u0 := hrel
  obtain ⟨u, rows, rfl, h3, h4, h5⟩ := Nr.sched hr hrel2
  refine ⟨u, rfl, h5, rows, h3, h4.frame (Agree.refl _ _) (Agree.refl _ _) (Nat.le_refl _) ?_ ?_⟩
  all_goals exact fun b _ hb => hp.a0 b (hX b hb) hb
abbrev Kq.x (x : SSp) : Array Value := #[.int .i64 x.1, .int .i64 x.2.1, .int .i64 x.2.2.1, .int .i64 x.2.2.2]
theorem Kq.xRow {x : SSp} {row : List V} : RowV tSSp x row = (∃ v0 r0, row = v0 :: r0 ∧ (v0 = .int .i64 x.1) ∧ ∃ v1 r1, r0 = v1 :: r1 ∧ (v1 = .int .i64 x.2.1) ∧ ∃ v2 r2, r1 = v2 :: r2 ∧ (v2 = .int .i64 x.2.2.1) ∧ ∃ v3, r2 = [v3] ∧ (v3 = .int .i64 x.2.2.2)) := by kernel_rfl
theorem Kq.xArg {w : World} {X : Nat → Prop} (x : SSp) : ∃ v, ArgV (.g tSSp) x v ∧ Rel ⟨w, X, noH, noB⟩ v (.agg (Kq.x x)) := by
  refine ⟨.agg [.int .i64 x.1, .int .i64 x.2.1, .int .i64 x.2.2.1, .int .i64 x.2.2.2], ⟨_, rfl, ?_⟩, ⟨_, rfl, rfl, fun j y hy => ?_⟩⟩
  · rw [Kq.xRow]
    exact ⟨_, _, rfl, rfl, _, _, rfl, rfl, _, _, rfl, rfl, _, rfl, rfl⟩
  · match j, hy with
    | 0, hy => simp at hy; subst hy; exact ⟨_, rfl, .int _ _⟩
    | 1, hy => simp at hy; subst hy; exact ⟨_, rfl, .int _ _⟩
    | 2, hy => simp at hy; subst hy; exact ⟨_, rfl, .int _ _⟩
    | 3, hy => simp at hy; subst hy; exact ⟨_, rfl, .int _ _⟩
    | j + 4, hy => simp at hy
theorem Kq.uni {w : World} (x : SSp) : Calls Try.prog 32 #[.agg (Kq.x x)] w fun en w' => en = .returned (.int .i64 (nitS x)) ∧ Below w.heap.size w w' :=
  Ns.callI (b := nitS x) E_nit_ok (x : SSp) rfl rfl HEq.rfl (ArgsAt.one (Kq.xArg x))
theorem Kq.pla {w : World} (v n : Int) (hn : 0 < n) (hn2 : n ≤ 1000) : Calls Try.prog 12 #[.int .i64 v, .int .i64 n] w fun en w' => en = .returned (.int .i64 (plc (v, n))) ∧ Below w.heap.size w w' :=
  Ns.callI (b := plc (v, n)) E_place_ok ((v, n) : Int × Int) rfl (by
    show plcPre (v, n) = true
    unfold plcPre
    rw [decide_eq_true (show 0 < (v, n).2 from hn), decide_eq_true (show (v, n).2 ≤ 4611686018427387904 by show n ≤ _; omega)]; rfl) HEq.rfl (ArgsAt.two ArgAt.int ArgAt.int)
theorem Kq.awk {w : World} : Calls Try.prog 10 #[] w fun en w' => en = .returned (.bool true) ∧ Below w.heap.size w w' :=
  Ns.callB (b := true) E_awk_ok (() : Unit) rfl rfl HEq.rfl ⟨[], rfl, rfl, fun i x hx => by cases hx⟩
theorem Kq.new0 {w : World} : Calls Try.prog 11 #[] w fun en w' => ∃ u, en = .returned (.agg (Nc.s 0 0 u)) ∧ Kq.SV w' (fun _ => False) (0, 0, []) u ∧ Below w.heap.size w w' := by
  refine (Ns.call E_new_ok (() : Unit) rfl (us := #[]) ⟨[], rfl, rfl, fun i x hx => by cases hx⟩).mono fun en w' h => ?_
  obtain ⟨rds, us, β', A', hr, rfl, hp⟩ := h
  obtain ⟨rd, rfl, row, rfl, hrow⟩ := (hr : ∃ rd, rds = [rd] ∧ ∃ row, rd = .v (.agg row) ∧ RowV tSSd ((0, 0, []) : SSd) row)
  obtain ⟨u0, g1, g2⟩ := hp.rel 0 _ rfl
  obtain ⟨u, rfl, h2⟩ := Kq.SV.res (fun _ h => h.elim) hp hrow g2
  obtain ⟨y, rfl⟩ := List.length_eq_one_iff.1 (show us.length = 1 by simpa using hp.len)
  simp at g1; subst g1
  exact ⟨u, rfl, h2, ev_below' hp.ev⟩
theorem Kq.doo {w : World} {X : Nat → Prop} {s : SSd} {u : Value} (h : Kq.SV w X s u) (hX : ∀ b, X b → b < w.heap.size) (hs : okD s = true) (x : SSp) : Calls Try.prog 33 #[.agg (Nc.s s.1 s.2.1 u), .agg (Kq.x x)] w fun en w' =>
    ∃ u', en = .returned (.tuple #[.agg (Nc.s (doS (s, x)).1.1 (doS (s, x)).1.2.1 u'), .int .i64 (doS (s, x)).2]) ∧ Kq.SV w' X (doS (s, x)).1 u' ∧ Below w.heap.size w w' := by
  obtain ⟨v1, a1, b1⟩ := h.arg
  obtain ⟨v2, a2, b2⟩ := Kq.xArg (w := w) (X := X) x
  refine (Ns.callA E_doo_ok ((s, x) : SSd × SSp) hs hX (us := #[.agg (Nc.s s.1 s.2.1 u), .agg (Kq.x x)]) ⟨[v1, v2], ⟨v1, [v2], rfl, a1, v2, rfl, a2⟩, rfl, fun i y hy => ?_⟩).mono fun en w' h => ?_
  · match i, hy with
    | 0, hy => simp at hy; subst hy; exact ⟨_, rfl, b1⟩
    | 1, hy => simp at hy; subst hy; exact ⟨_, rfl, b2⟩
    | i + 2, hy => simp at hy
  · obtain ⟨rds, us, β', A', hr, rfl, hp⟩ := h
    obtain ⟨rd, r, rfl, ⟨row, rfl, hrow⟩, rd2, rfl, y, rfl, hy⟩ := (hr : ∃ rd r, rds = rd :: r ∧ (∃ row, rd = .v (.agg row) ∧ RowV tSSd (doS (s, x)).1 row) ∧ ∃ rd2, r = [rd2] ∧ ∃ y, rd2 = .v y ∧ TyV (.int .i64) (doS (s, x)).2 y)
    have hy := tyV_int.1 hy
    subst hy
    obtain ⟨u0, g1, g2⟩ := hp.rel 0 _ rfl
    obtain ⟨u1, g3, g4⟩ := hp.rel 1 _ rfl
    obtain ⟨u, rfl, h2⟩ := Kq.SV.res hX hp hrow g2
    have hl := hp.len
    match us, hl, g1, g3 with
    | [y0, y1], _, g1, g3 =>
      simp at g1 g3
      subst g1; subst g3
      have g4 : RelP w' A' (.int .i64 (doS (s, x)).2) y1 := g4
      cases g4
      exact ⟨u, rfl, h2, ev_below' hp.ev⟩
theorem Kq.tic {w : World} {X : Nat → Prop} {s : SSd} {u : Value} (h : Kq.SV w X s u) (hX : ∀ b, X b → b < w.heap.size) (hs : okD s = true) : Calls Try.prog 14 #[.agg (Nc.s s.1 s.2.1 u)] w fun en w' =>
    ∃ u', en = .returned (.tuple #[.agg (Nc.s (tckS s).1.1 (tckS s).1.2.1 u'), .int .i64 (tckS s).2.1, .int .i64 (tckS s).2.2.1, .int .i64 (tckS s).2.2.2.1, .int .i64 (tckS s).2.2.2.2]) ∧ Kq.SV w' X (tckS s).1 u' ∧ Below w.heap.size w w' := by
  obtain ⟨v1, a1, b1⟩ := h.arg
  refine (Ns.callA E_tic_ok (s : SSd) hs hX (us := #[.agg (Nc.s s.1 s.2.1 u)]) ⟨[v1], ⟨v1, rfl, a1⟩, rfl, fun i y hy => ?_⟩).mono fun en w' h => ?_
  · match i, hy with
    | 0, hy => simp at hy; subst hy; exact ⟨_, rfl, b1⟩
    | i + 1, hy => simp at hy
  · obtain ⟨rds, us, β', A', hr, rfl, hp⟩ := h
    obtain ⟨rd, r, rfl, ⟨row, rfl, hrow⟩, rd1, r1, rfl, ⟨y1, rfl, hy1⟩, rd2, r2, rfl, ⟨y2, rfl, hy2⟩, rd3, r3, rfl, ⟨y3, rfl, hy3⟩, rd4, rfl, y4, rfl, hy4⟩ := (hr : ∃ rd r, rds = rd :: r ∧ (∃ row, rd = .v (.agg row) ∧ RowV tSSd (tckS s).1 row) ∧ ∃ rd1 r1, r = rd1 :: r1 ∧ (∃ y, rd1 = .v y ∧ TyV (.int .i64) (tckS s).2.1 y) ∧ ∃ rd2 r2, r1 = rd2 :: r2 ∧ (∃ y, rd2 = .v y ∧ TyV (.int .i64) (tckS s).2.2.1 y) ∧ ∃ rd3 r3, r2 = rd3 :: r3 ∧ (∃ y, rd3 = .v y ∧ TyV (.int .i64) (tckS s).2.2.2.1 y) ∧ ∃ rd4, r3 = [rd4] ∧ ∃ y, rd4 = .v y ∧ TyV (.int .i64) (tckS s).2.2.2.2 y)
    have hy1 := tyV_int.1 hy1
    have hy2 := tyV_int.1 hy2
    have hy3 := tyV_int.1 hy3
    have hy4 := tyV_int.1 hy4
    subst hy1 hy2 hy3 hy4
    obtain ⟨u0, g0, k0⟩ := hp.rel 0 _ rfl
    obtain ⟨u1, g1, k1⟩ := hp.rel 1 _ rfl
    obtain ⟨u2, g2, k2⟩ := hp.rel 2 _ rfl
    obtain ⟨u3, g3, k3⟩ := hp.rel 3 _ rfl
    obtain ⟨u4, g4, k4⟩ := hp.rel 4 _ rfl
    obtain ⟨u, rfl, h2⟩ := Kq.SV.res hX hp hrow k0
    have hl := hp.len
    match us, hl, g0, g1, g2, g3, g4 with
    | [y0, y1, y2, y3, y4], _, g0, g1, g2, g3, g4 =>
      simp at g0 g1 g2 g3 g4
      subst g0; subst g1; subst g2; subst g3; subst g4
      have k1 : RelP w' A' (.int .i64 _) y1 := k1
      have k2 : RelP w' A' (.int .i64 _) y2 := k2
      have k3 : RelP w' A' (.int .i64 _) y3 := k3
      have k4 : RelP w' A' (.int .i64 _) y4 := k4
      cases k1; cases k2; cases k3; cases k4
      exact ⟨u, rfl, h2, ev_below' hp.ev⟩
end Go.Proofs
/-
  Layer 30: SchedUpcalls, walked. By an AI agent.
-/
namespace Go.Proofs
open Go.RowKit Go.Shelf Go.AL
set_option linter.unusedVariables false
set_option linter.unusedSimpArgs false
attribute [local go_sem] Oper.semAt_some
abbrev tyX : TypeId := 49
theorem Kq.steps {w : World} {l : List SSp} {u : Value} (h : ArgAt w (.rd tSSp) l u) : ∃ ad cap, u = .slice ad (l.length : Nat) cap ∧ ∀ (i : Nat) (x : SSp), l[i]? = some x → ∃ b off, ad = some ⟨b, off, none⟩ ∧ b < w.heap.size ∧
    w.cell? ⟨b, off + i * 4, none⟩ = some (.int .i64 x.1) ∧ w.cell? ⟨b, off + i * 4 + 1, none⟩ = some (.int .i64 x.2.1) ∧ w.cell? ⟨b, off + i * 4 + 2, none⟩ = some (.int .i64 x.2.2.1) ∧ w.cell? ⟨b, off + i * 4 + 3, none⟩ = some (.int .i64 x.2.2.2) := by
  obtain ⟨v, ⟨rows, rfl, h1⟩, h2⟩ := h
  have h2 : SlAt w (fun _ => False) (Env.M ⟨w, fun _ => False, noH, noB⟩) rows u := h2
  have hl := All2.len h1
  rcases h2 with ⟨⟨a, rfl⟩, rfl⟩ | ⟨b, off, cap, es, f, rfl, hcap, hb, hes, hc, hr⟩
  · have : l = [] := List.length_eq_zero_iff.1 (hl.trans rfl)
    subst this
    exact ⟨a, 0, rfl, fun i x hx => by simp at hx⟩
  · refine ⟨_, cap, by rw [show l.length = rows.length from hl], fun i x hx => ?_⟩
    obtain ⟨row, h3, h4⟩ := All2.get h1 i x hx
    have hne : rows ≠ [] := fun e => by rw [e] at h3; simp at h3
    have h4 : RowV tSSp x row := h4
    rw [Kq.xRow] at h4
    obtain ⟨v0, r0, rfl, rfl, v1, r1, rfl, rfl, v2, r2, rfl, rfl, v3, rfl, rfl⟩ := h4
    have he := hes _ (List.mem_of_getElem? h3)
    simp at he
    subst he
    have key : ∀ (j : Nat) (n : Int), ([V.int .i64 x.1, V.int .i64 x.2.1, V.int .i64 x.2.2.1, V.int .i64 x.2.2.2] : List V)[j]? = some (V.int .i64 n) → w.cell? ⟨b, off + i * 4 + j, none⟩ = some (.int .i64 n) := fun j n hj => by
      rw [hc i _ h3 j _ hj]
      have := hr i _ h3 j _ hj
      generalize f i j = z at this
      cases this
      rfl
    exact ⟨b, off, rfl, (hb hne).1, key 0 _ rfl, key 1 _ rfl, key 2 _ rfl, key 3 _ rfl⟩
theorem Kq.SV.shape {w : World} {X : Nat → Prop} {s : SSd} {u : Value} (h : Kq.SV w X s u) : ∃ a n c, u = .slice a n c := by
  obtain ⟨_, rows, _, h3⟩ := h
  rcases h3 with ⟨⟨a, rfl⟩, rfl⟩ | ⟨b, off, cap, es, f, rfl, _⟩
  · exact ⟨_, _, _, rfl⟩
  · exact ⟨_, _, _, rfl⟩
theorem Kq.Q.nil {w : World} {n0 S : Nat} {B : Option Nat} {v : Value} (h : Kq.Q w n0 S B v []) : ∃ a c, v = .slice a 0 c := by
  rcases h with ⟨_, _, rfl⟩ | ⟨b, off, cap, cur, _, _, _, rfl, _⟩
  · exact ⟨_, _, rfl⟩
  · exact ⟨_, _, rfl⟩
theorem Kq.Q.cons {w : World} {n0 S : Nat} {B : Option Nat} {v : Value} {e : Int} {r : List Int} (h : Kq.Q w n0 S B v (e :: r)) : ∃ b off cap, v = .slice (some ⟨b, off, none⟩) (r.length + 1) cap ∧ r.length + 1 ≤ cap := by
  rcases h with ⟨_, h, _⟩ | ⟨b, off, cap, cur, _, _, _, rfl, h, _⟩
  · cases h
  · exact ⟨_, _, _, rfl, h⟩
theorem Kq.Q.head {w : World} {n0 S : Nat} {B : Option Nat} {e : Int} {r : List Int} {b off cap : Nat} (h : Kq.Q w n0 S B (.slice (some ⟨b, off, none⟩) (r.length + 1) cap) (e :: r)) :
    w.cell? ⟨b, off, none⟩ = some (.int .i64 e) ∧ Kq.Q w n0 S B (.slice (some ⟨b, off + 1, none⟩) r.length (cap - 1)) r ∧ (cap = 1 → Kq.Q w n0 S B (.slice (some ⟨b, off, none⟩) 0 0) [] ∧ r = []) := by
  rcases h with ⟨_, h, _⟩ | ⟨b', off', cap', cur, h1, h2, h3, h4, h5, h6, h7, h8⟩
  · cases h
  · simp only [Value.slice.injEq, Option.some.injEq, Addr.mk.injEq, and_true] at h4
    obtain ⟨⟨rfl, rfl⟩, h4, rfl⟩ := h4
    have hl : (e :: r).length = r.length + 1 := rfl
    rw [hl] at h5
    refine ⟨by rw [h6.cell]; exact h8 0 e rfl, .inr ⟨b, off + 1, cap - 1, cur, h1, h2, h3, rfl, by omega, h6, by omega, fun j x hx => ?_⟩, fun hc => ⟨.inr ⟨b, off, 0, cur, h1, h2, h3, rfl, Nat.le_refl _, h6, by omega, fun j x hx => by simp at hx⟩, List.length_eq_zero_iff.1 (by omega)⟩⟩
    rw [show off + 1 + j = off + (j + 1) by omega]
    exact h8 (j + 1) x (by simpa using hx)
structure Kq.At (w wr : World) (S : Nat) (B : Option Nat) (s : SSd) (u v : Value) (q : List Int) : Prop where
  bel : Below w.heap.size w wr
  hS : w.heap.size ≤ S
  box : HB wr S tyS (Nc.s s.1 s.2.1 u)
  sv : Kq.SV wr (fun b => b = S ∨ B = some b) s u
  que : Kq.Q wr w.heap.size S B v q
theorem Kq.At.lt {w wr : World} {S : Nat} {B : Option Nat} {s : SSd} {u v : Value} {q : List Int} (h : Kq.At w wr S B s u v q) : ∀ b, (b = S ∨ B = some b) → b < wr.heap.size := fun b hb => by
  rcases hb with rfl | hb
  · exact h.box.lt
  · exact (h.que.lt hb).2.1
theorem Kq.At.next {w wr W : World} {S : Nat} {B : Option Nat} {s : SSd} {u v : Value} {q : List Int} (h : Kq.At w wr S B s u v q) (hb : Below wr.heap.size wr W) : Kq.At w W S B s u v q :=
  ⟨h.bel.trans (hb.mono h.bel.size), h.hS, h.box.below hb h.box.lt, h.sv.below hb, h.que.ev (below_ev hb) (fun b h1 h2 => by have := (h.que.lt h1).2.1; omega)⟩
theorem Kq.At.reset {w wr : World} {S : Nat} {B : Option Nat} {s : SSd} {u v : Value} {q : List Int} (h : Kq.At w wr S B s u v q) : Kq.At w wr S none s u (.slice none 0 0) [] :=
  ⟨h.bel, h.hS, h.box, h.sv.frame (Y := fun _ => False) ⟨rfl, rfl, rfl, Nat.le_refl _, fun _ _ _ => rfl⟩ (fun _ _ h => h.elim) (fun b _ h => h.elim .inl (fun e => by cases e)), .inl ⟨rfl, rfl, rfl⟩⟩
theorem Kq.res {W : World} {v : Value} {tmps : Array Value} (h4 : tmps[4]? = some v) : (results Try.f9 tmps).run Try.prog W = .ok v W := by
  simp [results, Try.f9, go_sem, h4]
theorem Kq.At.put {w wr : World} {S : Nat} {B : Option Nat} {s s' : SSd} {u u' v : Value} {q : List Int} (h : Kq.At w wr S B s u v q) (hs : Kq.SV wr (fun b => b = S ∨ B = some b) s' u') :
    Kq.At w (((wr.setCell ⟨S, 0, none⟩ (.int .i64 s'.1)).setCell ⟨S, 1, none⟩ (.int .i64 s'.2.1)).setCell ⟨S, 2, none⟩ u') S B s' u' v q :=
  ⟨h.bel.trans (Nc.below3 h.hS _ _ _), h.hS, Nc.store3 h.box _ _ _, hs.frame (Nc.ev3 _ _ _) (fun b _ e => .inl e) (fun _ _ h => h), h.que.ev (Nc.ev3 _ _ _) (fun b h1 h2 => (h.que.lt h1).2.2 h2)⟩
set_option maxRecDepth 100000 in
set_option maxHeartbeats 4000000 in
theorem Kq.walk (w : World) (l : List SSp) (which : Int) (u0 : Value) (ha : ArgAt w (.rd tSSp) l u0) :
    Calls Try.prog 9 #[u0, .int .i64 which] w fun en W => en = .returned (.bool true) ∧ Below w.heap.size w W := by
  have hu1t := Try.underlying26
  have hu2t := Try.underlying49
  have hu3t := Try.underlying22
  obtain ⟨ad, cap, rfl, hst⟩ := Kq.steps ha
  have hid := plc_rng which (n := 8) (by omega)
  obtain ⟨id, hidd⟩ : ∃ id, id = plc (which, 8) := ⟨_, rfl⟩
  have hpl : ∀ {W1 : World}, Calls Try.prog 12 #[.int .i64 which, .int .i64 8] W1 fun en w' => en = .returned (.int .i64 id) ∧ Below W1.heap.size W1 w' := fun {W1} => by rw [hidd]; exact Kq.pla which 8 (by omega) (by omega)
  rw [← hidd] at hid
  clear hidd ha
  go_enter Try.func9, Try.ntmps9
  go_wp2_with (first
    | (go_at_call 11; refine (Kq.new0 (w := w)).mono ?_; rintro en W1 ⟨u, rfl, hsv, hB1⟩; obtain ⟨ua, um, uc, rfl⟩ := hsv.shape)
    | (go_at_call 12; refine hpl.mono ?_; rintro en W2 ⟨rfl, hB2⟩))
  have hid0 := hid.1
  have hA0 : Kq.At w W2 W1.heap.size none (0, 0, []) (.slice ua um uc) (.slice none 0 0) [] := by
    have hB3 : Below W1.heap.size W1 W2 := ((Below.refl _ W1).alloc (Nat.le_refl _) _).trans (hB2.mono (by simp))
    exact ⟨hB1.trans (hB3.mono hB1.size), hB1.size, (HB.new W1 tyS (Nc.s 0 0 (.slice ua um uc))).below hB2 (by simp), hsv.frame (below_ev hB3) (fun b h1 h2 => by omega) (fun b h1 h2 => by rcases h2 with h2 | h2 <;> first | omega | cases h2), .inl ⟨rfl, rfl, rfl⟩⟩
  clear hB1 hB2 hsv
  generalize W1.heap.size = S at *
  go_loopw [7, 8, 9] (fun v d i wr => ∃ (k : Nat) (s : SSd) (u : Value) (q : List Int) (B : Option Nat) (b : Bool), k ≤ 120 ∧ i = .int .i64 (k : Int) ∧ d = .bool b ∧ Kq.At w wr S B s u v q ∧ Sc s (40 * k) ∧ UpI s id q b ∧ q.length ≤ k) (fun _ _ i _ => 121 - (intOf i).toNat)
  case atStart => exact ⟨0, _, _, _, _, _, by omega, rfl, rfl, hA0, Sc.zero, UpI.zero id, by simp⟩
  case round =>
    obtain ⟨k, s, u, q, B, b, hk, rfl, rfl, hA, hsc, hup, hql⟩ := hrel
    clear hA0
    have hAS := hA.box.lt
    by_cases hlt : k < l.length
    · by_cases hlt2 : k < 120
      · have h1 : (k : Int) < (l.length : Int) := by omega
        have h2 : (k : Int) < 120 := by omega
        have hk0 : (0 : Int) ≤ (k : Int) := by omega
        obtain ⟨x, hx⟩ : ∃ x, l[k]? = some x := ⟨_, List.getElem?_eq_getElem hlt⟩
        obtain ⟨b0, off, rfl, hb0, c0, c1, c2, c3⟩ := hst k x hx
        rw [← hA.bel.cell (p := ⟨b0, _, none⟩) hb0] at c0 c1 c2 c3
        have hok := hsc.ok
        obtain ⟨ta, tm, tc, rfl⟩ := hA.sv.shape
        by_cases hn : nitS x = 0
        · obtain ⟨s', hs'⟩ : ∃ s', s' = (doS (s, x)).1 := ⟨_, rfl⟩
          obtain ⟨er, her⟩ : ∃ er, er = (doS (s, x)).2 := ⟨_, rfl⟩
          have hun : ∀ {W : World}, Calls Try.prog 32 #[.agg (Kq.x x)] W fun en w' => en = .returned (.int .i64 0) ∧ Below W.heap.size W w' := fun {W} => by rw [← hn]; exact Kq.uni x
          have hdo : ∀ {W : World}, Kq.SV W (fun b => b = S ∨ B = some b) s (.slice ta tm tc) → (∀ b, (b = S ∨ B = some b) → b < W.heap.size) → Calls Try.prog 33 #[.agg (Nc.s s.1 s.2.1 (.slice ta tm tc)), .agg (Kq.x x)] W fun en w' =>
              ∃ u', en = .returned (.tuple #[.agg (Nc.s s'.1 s'.2.1 u'), .int .i64 er]) ∧ Kq.SV w' (fun b => b = S ∨ B = some b) s' u' ∧ Below W.heap.size W w' := fun {W} h hX => by rw [hs', her]; exact Kq.doo h hX hok x
          by_cases he : er = 0
          · subst he
            have h0 : (doS (s, x)).2 = 0 := her.symm
            have hsc' : Sc s' (40 * (k + 1)) := by rw [hs']; exact (hsc.doo hn h0).mono (by omega)
            have hup' : UpI s' id (upQ x id q) (upB2 x id b) := by rw [hs']; exact hup.doo hsc.val hn h0
            have hk7 := kind7 hn
            clear h0 her hs' hst hup hsc hn
            have hA5 : ∀ {W3 W4 : World} {va : Option Addr} {vm vc : Nat}, Below wr.heap.size wr W3 → HB W3 wr.heap.size tyX (Kq.x x) → Below W3.heap.size W3 W4 → Kq.SV W4 (fun b => b = S ∨ B = some b) s' (.slice va vm vc) → ∀ W6, W6 = ((((W4.alloc (.cells #[.int .i64 s'.1, .int .i64 s'.2.1, .slice va vm vc] 26)).setCell ⟨S, 0, none⟩ (.int .i64 s'.1)).setCell ⟨S, 1, none⟩ (.int .i64 s'.2.1)).setCell ⟨S, 2, none⟩ (.slice va vm vc)) →
                Kq.At w W6 S B s' (.slice va vm vc) u7 q ∧ HB W6 wr.heap.size tyX (Kq.x x) ∧ wr.heap.size < W6.heap.size ∧ Below w.heap.size w W6 := fun {W3 W4 va vm vc} h3 hx3 h4 hsv W6 e6 => by
              have hb5 : Below wr.heap.size wr (W4.alloc (.cells (Nc.s s'.1 s'.2.1 (.slice va vm vc)) tyS)) := (h3.trans (h4.mono h3.size)).alloc (by have := h3.size; have := h4.size; omega) _
              have hlt3 := hx3.lt
              have hA6 := (hA.next hb5).put (s' := s') (u' := .slice va vm vc) (hsv.below ((Below.refl _ W4).alloc (Nat.le_refl _) _))
              have hx6 := ((((hx3.below h4 hlt3).alloc (.cells (Nc.s s'.1 s'.2.1 (.slice va vm vc)) tyS)).other (B' := S) (by omega) 0 (.int .i64 s'.1)).other (B' := S) (by omega) 1 (.int .i64 s'.2.1)).other (B' := S) (by omega) 2 (.slice va vm vc)
              rw [e6]
              exact ⟨hA6, hx6, hx6.lt, hA6.bel⟩
            go_upto_region 13 with (first
              | (go_at_call 32; refine hun.mono ?_; clear hun; rintro en W3 ⟨rfl, hB3⟩; have hb3 : Below wr.heap.size wr W3 := ((Below.refl _ wr).alloc (Nat.le_refl _) _).trans (hB3.mono (by simp)); have hA3 := hA.next hb3; have bx3 : HB W3 wr.heap.size tyX (Kq.x x) := (HB.new wr tyX (Kq.x x)).below hB3 (by simp); have s0 := hA3.box.cell 0; have s1 := hA3.box.cell 1; have s2 := hA3.box.cell 2; have x0 := bx3.cell 0; have x1 := bx3.cell 1; have x2 := bx3.cell 2; have x3 := bx3.cell 3)
              | (go_at_call 33; refine (hdo hA3.sv hA3.lt).mono ?_; clear hdo; rintro en W4 ⟨u', rfl, hsv', hB4⟩; obtain ⟨va, vm, vc, rfl⟩ := hsv'.shape; have hA4 := hA3.next (hB4.alloc (o := .cells (Nc.s s'.1 s'.2.1 (.slice va vm vc)) tyS) hB4.size); have f0 := hA4.box.frozen 0; have f1 := hA4.box.frozen 1; have f2 := hA4.box.frozen 2; have s0 := hA4.box.cell 0; have s1 := hA4.box.cell 1; have s2 := hA4.box.cell 2))
            obtain ⟨hA6, bx6, hx6, hb6⟩ := hA5 hb3 bx3 hB4 hsv' _ rfl
            clear hA5 hA4 hA3 bx3 hb3 hsv' hB4 hB3 f0 f1 f2 s0 s1 s2 x0 x1 x2 x3 c0 c1 c2 c3 hAS
            generalize ((((W4.alloc (.cells #[.int .i64 s'.1, .int .i64 s'.2.1, .slice va vm vc] 26)).setCell ⟨S, 0, none⟩ (.int .i64 s'.1)).setCell ⟨S, 1, none⟩ (.int .i64 s'.2.1)).setCell ⟨S, 2, none⟩ (.slice va vm vc)) = W6 at *
            generalize wr.heap.size = X at *
            have hSX : S ≠ X := fun e => by rw [e] at hA6; have := hA6.box.symm.trans bx6; simp at this
            obtain ⟨p1, p2⟩ := plc_rng x.2.1 (n := 8) (by omega)
            have hid2 : ∀ {W : World}, Calls Try.prog 12 #[.int .i64 x.2.1, .int .i64 8] W fun en w' => en = .returned (.int .i64 (plc (x.2.1, 8))) ∧ Below W.heap.size W w' := fun {W} => Kq.pla _ 8 (by omega) (by omega)
            have hkd : ∀ {W : World}, Calls Try.prog 12 #[.int .i64 x.1, .int .i64 10] W fun en w' => en = .returned (.int .i64 (plc (x.1, 10))) ∧ Below W.heap.size W w' := fun {W} => Kq.pla _ 10 (by omega) (by omega)
            have hev : ∀ {W : World}, Calls Try.prog 12 #[.int .i64 x.2.2.1, .int .i64 100] W fun en w' => en = .returned (.int .i64 (plc (x.2.2.1, 100))) ∧ Below W.heap.size W w' := fun {W} => Kq.pla _ 100 (by omega) (by omega)
            have y0 := bx6.cell 0
            have y1 := bx6.cell 1
            have y2 := bx6.cell 2
            by_cases hpi : plc (x.2.1, 8) = id
            · have hid3 : ∀ {W : World}, Calls Try.prog 12 #[.int .i64 x.2.1, .int .i64 8] W fun en w' => en = .returned (.int .i64 id) ∧ Below W.heap.size W w' := fun {W} => by rw [← hpi]; exact hid2
              have hq : upQ x id q = bif decide (plc (x.1, 10) = 0) || (decide (plc (x.1, 10) = 1) || decide (plc (x.1, 10) = 2)) then [] else bif decide (plc (x.1, 10) = 5) then q ++ [1 + plc (x.2.2.1, 100)] else q := by unfold upQ; rw [decide_eq_true hpi]; rfl
              have hb : upB2 x id b = bif decide (plc (x.1, 10) = 0) || (decide (plc (x.1, 10) = 1) || decide (plc (x.1, 10) = 2)) then false else bif decide (plc (x.1, 10) = 6) then false else b := by unfold upB2; rw [decide_eq_true hpi]; rfl
              rw [hq, hb] at hup'
              clear hq hb hpi hid2
              have fin : ∀ {W : World} {u' v' : Value} {q' : List Int} {B' : Option Nat} {b' : Bool}, Kq.At w W S B' s' u' v' q' → UpI s' id q' b' → q'.length ≤ k + 1 → ∃ (k' : Nat) (s : SSd) (u : Value) (q : List Int) (B : Option Nat) (b'' : Bool), k' ≤ 120 ∧ Value.int .i64 ((k : Int) + 1) = .int .i64 (k' : Int) ∧ Value.bool b' = .bool b'' ∧ Kq.At w W S B s u v' q ∧ Sc s (40 * k') ∧ UpI s id q b'' ∧ q.length ≤ k' := fun {W u' v' q' B' b'} h1 h2 h3 => ⟨k + 1, s', u', q', B', b', by omega, by congr 1, rfl, h1, hsc', h2, h3⟩
              have kd : ∀ n, plc (x.1, 10) = n → ∀ {W : World}, Calls Try.prog 12 #[.int .i64 x.1, .int .i64 10] W fun en w' => en = .returned (.int .i64 n) ∧ Below W.heap.size W w' := fun n hn {W} => by rw [← hn]; exact hkd
              clear hkd
              rcases hk7 with k7 | k7 | k7 | k7 | k7 | k7 | k7
              · have hkd3 := @kd _ k7
                rw [k7] at hup'
                have hup2 : UpI s' id [] false := hup'
                clear hup' k7 kd
                go_wp2_with (go_at_call 12; first
                  | (refine hid3.mono ?_; clear hid3; rintro en W7 ⟨rfl, hB7⟩; have hA7 := hA6.next hB7; have bx7 := bx6.below hB7 hx6; have y0 := bx7.cell 0; have y1 := bx7.cell 1; have y2 := bx7.cell 2)
                  | (refine hkd3.mono ?_; clear hkd3; rintro en W8 ⟨rfl, hB8⟩; have hA8 := hA7.next hB8; have bx8 := bx7.below hB8 bx7.lt; have y0 := bx8.cell 0; have y1 := bx8.cell 1; have y2 := bx8.cell 2))
                exact ⟨fin hA8.reset hup2 (Nat.zero_le _), by simp [intOf]; omega⟩
              · have hkd3 := @kd _ k7
                rw [k7] at hup'
                have hup2 : UpI s' id [] false := hup'
                clear hup' k7 kd
                go_wp2_with (go_at_call 12; first
                  | (refine hid3.mono ?_; clear hid3; rintro en W7 ⟨rfl, hB7⟩; have hA7 := hA6.next hB7; have bx7 := bx6.below hB7 hx6; have y0 := bx7.cell 0; have y1 := bx7.cell 1; have y2 := bx7.cell 2)
                  | (refine hkd3.mono ?_; clear hkd3; rintro en W8 ⟨rfl, hB8⟩; have hA8 := hA7.next hB8; have bx8 := bx7.below hB8 bx7.lt; have y0 := bx8.cell 0; have y1 := bx8.cell 1; have y2 := bx8.cell 2))
                exact ⟨fin hA8.reset hup2 (Nat.zero_le _), by simp [intOf]; omega⟩
              · have hkd3 := @kd _ k7
                rw [k7] at hup'
                have hup2 : UpI s' id [] false := hup'
                clear hup' k7 kd
                go_wp2_with (go_at_call 12; first
                  | (refine hid3.mono ?_; clear hid3; rintro en W7 ⟨rfl, hB7⟩; have hA7 := hA6.next hB7; have bx7 := bx6.below hB7 hx6; have y0 := bx7.cell 0; have y1 := bx7.cell 1; have y2 := bx7.cell 2)
                  | (refine hkd3.mono ?_; clear hkd3; rintro en W8 ⟨rfl, hB8⟩; have hA8 := hA7.next hB8; have bx8 := bx7.below hB8 bx7.lt; have y0 := bx8.cell 0; have y1 := bx8.cell 1; have y2 := bx8.cell 2))
                exact ⟨fin hA8.reset hup2 (Nat.zero_le _), by simp [intOf]; omega⟩
              · have hkd3 := @kd _ k7
                rw [k7] at hup'
                have hup2 : UpI s' id q b := hup'
                clear hup' k7 kd
                go_wp2_with (go_at_call 12; first
                  | (refine hid3.mono ?_; clear hid3; rintro en W7 ⟨rfl, hB7⟩; have hA7 := hA6.next hB7; have bx7 := bx6.below hB7 hx6; have y0 := bx7.cell 0; have y1 := bx7.cell 1; have y2 := bx7.cell 2)
                  | (refine hkd3.mono ?_; clear hkd3; rintro en W8 ⟨rfl, hB8⟩; have hA8 := hA7.next hB8; have bx8 := bx7.below hB8 bx7.lt; have y0 := bx8.cell 0; have y1 := bx8.cell 1; have y2 := bx8.cell 2))
                exact ⟨fin hA8 hup2 (by omega), by simp [intOf]; omega⟩
              · have hkd3 := @kd _ k7
                rw [k7] at hup'
                have hup2 : UpI s' id q b := hup'
                clear hup' k7 kd
                go_wp2_with (go_at_call 12; first
                  | (refine hid3.mono ?_; clear hid3; rintro en W7 ⟨rfl, hB7⟩; have hA7 := hA6.next hB7; have bx7 := bx6.below hB7 hx6; have y0 := bx7.cell 0; have y1 := bx7.cell 1; have y2 := bx7.cell 2)
                  | (refine hkd3.mono ?_; clear hkd3; rintro en W8 ⟨rfl, hB8⟩; have hA8 := hA7.next hB8; have bx8 := bx7.below hB8 bx7.lt; have y0 := bx8.cell 0; have y1 := bx8.cell 1; have y2 := bx8.cell 2))
                exact ⟨fin hA8 hup2 (by omega), by simp [intOf]; omega⟩
              · have hkd3 := @kd _ k7
                rw [k7] at hup'
                obtain ⟨ev, hevv⟩ : ∃ ev, ev = plc (x.2.2.1, 100) := ⟨_, rfl⟩
                have hev3 : ∀ {W : World}, Calls Try.prog 12 #[.int .i64 x.2.2.1, .int .i64 100] W fun en w' => en = .returned (.int .i64 ev) ∧ Below W.heap.size W w' := fun {W} => by rw [hevv]; exact hev
                have hevr := plc_rng x.2.2.1 (n := 100) (by omega)
                rw [← hevv] at hevr hup'
                have hup2 : UpI s' id (q ++ [1 + ev]) b := hup'
                obtain ⟨r1, r2⟩ := hevr
                clear hup' k7 kd hevv hev
                have happ : ∀ {W9 : World} {u' : Value}, Kq.At w W9 S B s' u' u7 q → ∃ v' w', (Builtin.append_ #[22, 22] 22 #[u7, .slice (some ⟨W9.heap.size, 0, none⟩) 1 1]).run Try.prog (W9.alloc (.cells #[.int .i64 (1 + ev)] 3)) = .ok v' w' ∧ ∃ B', Kq.At w w' S B' s' u' v' (q ++ [1 + ev]) := fun {W9 u'} h => by
                  have hB : Below W9.heap.size W9 (W9.alloc (.cells #[.int .i64 (1 + ev)] 3)) := (Below.refl _ W9).alloc (Nat.le_refl _) _
                  have h2 := h.next hB
                  obtain ⟨v', w', g1, B', g2, g3, g4⟩ := Kq.app h2.que (1 + ev) (HB.new W9 3 #[.int .i64 (1 + ev)]) (by omega) h2.box.lt h2.bel.size
                  refine ⟨v', w', g1, B', h2.bel.trans (ev_below_n g3 (fun g hg => (h2.que.lt hg).1) h2.bel.size), h2.hS, h2.box.ev g3 (fun e => (h2.que.lt e).2.2 rfl), h2.sv.frame g3 (fun b _ e => .inr e) (fun b hb e => e.elim .inl (fun e => (g4 b e).elim .inr (fun e2 => by omega))), g2⟩
                go_wp2_with (first
                  | (go_at_call 12; first
                  | (refine hid3.mono ?_; clear hid3; rintro en W7 ⟨rfl, hB7⟩; have hA7 := hA6.next hB7; have bx7 := bx6.below hB7 hx6; have y0 := bx7.cell 0; have y1 := bx7.cell 1; have y2 := bx7.cell 2)
                  | (refine hkd3.mono ?_; clear hkd3; rintro en W8 ⟨rfl, hB8⟩; have hA8 := hA7.next hB8; have bx8 := bx7.below hB8 bx7.lt; have y0 := bx8.cell 0; have y1 := bx8.cell 1; have y2 := bx8.cell 2)
                  | (refine hev3.mono ?_; clear hev3; rintro en W9 ⟨rfl, hB9⟩; have hA9 := hA8.next hB9; obtain hQ := happ hA9))
                  | (at_builtin; go_loud (refine Kq.wpApp rfl (.tmp 64) (.tmp 69) 22 rfl rfl rfl rfl hQ ?_; rintro v' w' ⟨B', hA10⟩)))
                exact ⟨fin hA10 hup2 (by simp; omega), by simp [intOf]; omega⟩
              · have hkd3 := @kd _ k7
                rw [k7] at hup'
                have hup2 : UpI s' id q false := hup'
                clear hup' k7 kd
                go_wp2_with (go_at_call 12; first
                  | (refine hid3.mono ?_; clear hid3; rintro en W7 ⟨rfl, hB7⟩; have hA7 := hA6.next hB7; have bx7 := bx6.below hB7 hx6; have y0 := bx7.cell 0; have y1 := bx7.cell 1; have y2 := bx7.cell 2)
                  | (refine hkd3.mono ?_; clear hkd3; rintro en W8 ⟨rfl, hB8⟩; have hA8 := hA7.next hB8; have bx8 := bx7.below hB8 bx7.lt; have y0 := bx8.cell 0; have y1 := bx8.cell 1; have y2 := bx8.cell 2))
                exact ⟨fin hA8 hup2 (by omega), by simp [intOf]; omega⟩
            · have e1 : upQ x id q = q := by unfold upQ; rw [decide_eq_false hpi]; rfl
              have e2 : upB2 x id b = b := by unfold upB2; rw [decide_eq_false hpi]; rfl
              rw [e1, e2] at hup'
              have hfin : ∀ {W : World}, Below W6.heap.size W6 W → ∃ (k' : Nat) (s : SSd) (u : Value) (q : List Int) (B : Option Nat) (b' : Bool), k' ≤ 120 ∧ Value.int .i64 ((k : Int) + 1) = .int .i64 (k' : Int) ∧ Value.bool b = .bool b' ∧ Kq.At w W S B s u u7 q ∧ Sc s (40 * k') ∧ UpI s id q b' ∧ q.length ≤ k' := fun {W} hb => ⟨k + 1, s', _, q, B, b, by omega, by congr 1, rfl, hA6.next hb, hsc', hup', by omega⟩
              generalize plc (x.2.1, 8) = pd at *
              clear hup' e1 e2 hk7
              go_wp2_with (first
                | (go_at_call 12; refine hid2.mono ?_; clear hid2; rintro en W7 ⟨rfl, hB7⟩))
              exact ⟨hfin hB7, by simp [intOf]; omega⟩
          · have hfin : ∀ {W : World}, Below wr.heap.size wr W → ∃ (k' : Nat) (s : SSd) (u : Value) (q : List Int) (B : Option Nat) (b' : Bool), k' ≤ 120 ∧ Value.int .i64 ((k : Int) + 1) = .int .i64 (k' : Int) ∧ Value.bool b = .bool b' ∧ Kq.At w W S B s u u7 q ∧ Sc s (40 * k') ∧ UpI s id q b' ∧ q.length ≤ k' := fun {W} hb => ⟨k + 1, s, _, q, B, b, by omega, by congr 1, rfl, hA.next hb, hsc.mono (by omega), hup, by omega⟩
            clear hs' her hst hup hsc hn
            go_wp2_with (first
              | (go_at_call 32; refine hun.mono ?_; clear hun; rintro en W3 ⟨rfl, hB3⟩; have hb3 : Below wr.heap.size wr W3 := ((Below.refl _ wr).alloc (Nat.le_refl _) _).trans (hB3.mono (by simp)); have hA3 := hA.next hb3; have bx3 : HB W3 wr.heap.size tyX (Kq.x x) := (HB.new wr tyX (Kq.x x)).below hB3 (by simp); have s0 := hA3.box.cell 0; have s1 := hA3.box.cell 1; have s2 := hA3.box.cell 2; have x0 := bx3.cell 0; have x1 := bx3.cell 1; have x2 := bx3.cell 2; have x3 := bx3.cell 3)
              | (go_at_call 33; refine (hdo hA3.sv hA3.lt).mono ?_; clear hdo; rintro en W4 ⟨u', rfl, hsv', hB4⟩; obtain ⟨va, vm, vc, rfl⟩ := hsv'.shape))
            exact ⟨hfin ((hb3.trans (hB4.mono hb3.size)).alloc (by have := hb3.size; have := hB4.size; omega) _), by simp [intOf]; omega⟩
        · obtain ⟨n1, n2⟩ := nit_rng x
          obtain ⟨m, hm⟩ : ∃ m : Nat, nitS x = ((m : Nat) : Int) := ⟨(nitS x).toNat, by omega⟩
          have hm0 : 0 < m := by omega
          have hm40 : m ≤ 40 := by omega
          have hun : ∀ {W : World}, Calls Try.prog 32 #[.agg (Kq.x x)] W fun en w' => en = .returned (.int .i64 (m : Int)) ∧ Below W.heap.size W w' := fun {W} => by rw [← hm]; exact Kq.uni x
          have hm1 : ¬ (m : Int) = 0 := by omega
          clear hn n1 n2 hm hst
          obtain ⟨wo, hwo⟩ : ∃ wo : World, wo = wr := ⟨_, rfl⟩
          go_wp2_with (go_at_call 32; first
            | (refine (hun (W := wr.alloc (.cells (Kq.x x) tyX))).mono ?_; rintro en W3 ⟨rfl, hB3⟩; have hb3 : Below wr.heap.size wr W3 := ((Below.refl _ wr).alloc (Nat.le_refl _) _).trans (hB3.mono (by simp)); have hA3 := hA.next hb3; have bx3 : HB W3 wr.heap.size tyX (Kq.x x) := (HB.new wr tyX (Kq.x x)).below hB3 (by simp); have x0 := bx3.cell 0; have x1 := bx3.cell 1; have x2 := bx3.cell 2; have x3 := bx3.cell 3)
            | (refine hun.mono ?_; rintro en W4 ⟨rfl, hB4⟩; have hA4 := hA3.next hB4))
          clear hA hA3 hb3 hB3 hB4 bx3 x0 x1 x2 x3 c0 c1 c2 c3 hun hwo hAS hok
          go_loopw [7, 8, 13] (fun v d n wr => ∃ (j : Nat) (s : SSd) (u : Value) (q : List Int) (B : Option Nat) (b : Bool), j ≤ m ∧ n = .int .i64 (j : Int) ∧ d = .bool b ∧ Kq.At w wr S B s u v q ∧ Sc s (40 * k + (m - j)) ∧ UpI s id q b ∧ q.length ≤ k) (fun _ _ n _ => (intOf n).toNat)
          case atStart => exact ⟨m, _, _, _, _, _, Nat.le_refl _, rfl, rfl, hA4, by rw [Nat.sub_self]; exact hsc, hup, hql⟩
          case round =>
            obtain ⟨j, s, u, q, B, b, hj, rfl, rfl, hA, hsc, hup, hql⟩ := hrel
            clear hA4
            have hAS := hA.box.lt
            obtain ⟨ta, tm, tc, rfl⟩ := hA.sv.shape
            have s0 := hA.box.cell 0
            have s1 := hA.box.cell 1
            have s2 := hA.box.cell 2
            by_cases hj0 : j = 0
            · subst hj0
              have fin : ∃ (k' : Nat) (s : SSd) (u : Value) (q : List Int) (B : Option Nat) (b' : Bool), k' ≤ 120 ∧ Value.int .i64 ((k : Int) + 1) = .int .i64 (k' : Int) ∧ Value.bool b = .bool b' ∧ Kq.At w wr S B s u u7 q ∧ Sc s (40 * k') ∧ UpI s id q b' ∧ q.length ≤ k' := ⟨k + 1, s, _, q, B, b, by omega, by congr 1, rfl, hA, hsc.mono (by omega), hup, by omega⟩
              clear hsc hup
              go_wp2
              exact ⟨fin, by simp [intOf]; omega⟩
            · obtain ⟨i, rfl⟩ : ∃ i, j = i + 1 := ⟨j - 1, by omega⟩
              have hok := hsc.ok
              obtain ⟨z1, z2, z3, z4⟩ := hup.tick hsc (by omega) hid0
              obtain ⟨s', hs'⟩ : ∃ s', s' = (tckS s).1 := ⟨_, rfl⟩
              obtain ⟨c, hc⟩ : ∃ c, c = (tckS s).2.1 := ⟨_, rfl⟩
              obtain ⟨en0, hen⟩ : ∃ e, e = (tckS s).2.2.1 := ⟨_, rfl⟩
              obtain ⟨ev, hev⟩ : ∃ e, e = (tckS s).2.2.2.1 := ⟨_, rfl⟩
              have htk : ∀ {W : World}, Kq.SV W (fun b => b = S ∨ B = some b) s (.slice ta tm tc) → (∀ b, (b = S ∨ B = some b) → b < W.heap.size) → Calls Try.prog 14 #[.agg (Nc.s s.1 s.2.1 (.slice ta tm tc))] W fun en w' =>
                  ∃ u', en = .returned (.tuple #[.agg (Nc.s s'.1 s'.2.1 u'), .int .i64 c, .int .i64 en0, .int .i64 ev, .int .i64 0]) ∧ Kq.SV w' (fun b => b = S ∨ B = some b) s' u' ∧ Below W.heap.size W w' := fun {W} h hX => by rw [hs', hc, hen, hev, ← z1]; exact Kq.tic h hX hok
              rw [← hs', ← hc, ← hen, ← hev] at z4
              rw [← hen, ← hev] at z2
              rw [← hs'] at z3
              have hsc' : Sc s' (40 * k + (m - i)) := z3.mono (by omega)
              clear hsc hup z1 z3 hs' hc hen hev hok
              have hA5 : ∀ {W3 : World} {va : Option Addr} {vm vc : Nat}, Below wr.heap.size wr W3 → Kq.SV W3 (fun b => b = S ∨ B = some b) s' (.slice va vm vc) → ∀ W6, W6 = ((((W3.alloc (.cells #[.int .i64 s'.1, .int .i64 s'.2.1, .slice va vm vc] 26)).setCell ⟨S, 0, none⟩ (.int .i64 s'.1)).setCell ⟨S, 1, none⟩ (.int .i64 s'.2.1)).setCell ⟨S, 2, none⟩ (.slice va vm vc)) →
                  Kq.At w W6 S B s' (.slice va vm vc) u7 q := fun {W3 va vm vc} h3 hsv W6 e6 => by
                have hA6 := (hA.next (h3.alloc (o := .cells (Nc.s s'.1 s'.2.1 (.slice va vm vc)) tyS) h3.size)).put (s' := s') (u' := .slice va vm vc) (hsv.below ((Below.refl _ W3).alloc (Nat.le_refl _) _))
                rw [e6]
                exact hA6
              have hi0 : ((i + 1 : Nat) : Int) > 0 := by omega
              have fin : ∀ {W : World} {u' v' : Value} {q' : List Int} {B' : Option Nat} {b' : Bool}, Kq.At w W S B' s' u' v' q' → UpI s' id q' b' → q'.length ≤ k → ∃ (j' : Nat) (s : SSd) (u : Value) (q : List Int) (B : Option Nat) (b'' : Bool), j' ≤ m ∧ Value.int .i64 (i : Int) = .int .i64 (j' : Int) ∧ Value.bool b' = .bool b'' ∧ Kq.At w W S B s u v' q ∧ Sc s (40 * k + (m - j')) ∧ UpI s id q b'' ∧ q.length ≤ k := fun {W u' v' q' B' b'} h1 h2 h3 => ⟨i, s', u', q', B', b', by omega, rfl, rfl, h1, hsc', h2, h3⟩
              have hE : (en0 = 3 ∧ ev ≠ 0) ∨ (en0 ≠ 3 ∧ ev = 0) := by
                by_cases h : en0 = 3
                · exact .inl ⟨h, z2.1 h⟩
                · exact .inr ⟨h, Classical.not_not.1 fun h2 => h (z2.2 h2)⟩
              clear z2
              rcases z4 with ⟨z4, z5⟩ | ⟨z4, z5, z6⟩
              · rcases hE with ⟨g1, g2⟩ | ⟨g1, g2⟩
                · have g3 : (ev != 0) = true := by simpa using g2
                  go_upto_region 30 with (go_at_call 14; refine (htk hA.sv hA.lt).mono ?_; clear htk; rintro en W3 ⟨u', rfl, hsv', hB3⟩; obtain ⟨va, vm, vc, rfl⟩ := hsv'.shape; have hA4 := hA.next (hB3.alloc (o := .cells (Nc.s s'.1 s'.2.1 (.slice va vm vc)) tyS) hB3.size); have f0 := hA4.box.frozen 0; have f1 := hA4.box.frozen 1; have f2 := hA4.box.frozen 2; have s0 := hA4.box.cell 0; have s1 := hA4.box.cell 1; have s2 := hA4.box.cell 2)
                  have hA6 := hA5 hB3 hsv' _ rfl
                  clear hA5 hA4 hA hsv' hB3 f0 f1 f2 s0 s1 s2 hAS
                  generalize ((((W3.alloc (.cells #[.int .i64 s'.1, .int .i64 s'.2.1, .slice va vm vc] 26)).setCell ⟨S, 0, none⟩ (.int .i64 s'.1)).setCell ⟨S, 1, none⟩ (.int .i64 s'.2.1)).setCell ⟨S, 2, none⟩ (.slice va vm vc)) = W6 at *
                  clear g1 g2 g3
                  go_wp2
                  exact ⟨fin hA6 z5 hql, by simp [intOf]⟩
                · have g3 : (en0 == 3) = false := by simpa using g1
                  go_upto_region 30 with (go_at_call 14; refine (htk hA.sv hA.lt).mono ?_; clear htk; rintro en W3 ⟨u', rfl, hsv', hB3⟩; obtain ⟨va, vm, vc, rfl⟩ := hsv'.shape; have hA4 := hA.next (hB3.alloc (o := .cells (Nc.s s'.1 s'.2.1 (.slice va vm vc)) tyS) hB3.size); have f0 := hA4.box.frozen 0; have f1 := hA4.box.frozen 1; have f2 := hA4.box.frozen 2; have s0 := hA4.box.cell 0; have s1 := hA4.box.cell 1; have s2 := hA4.box.cell 2)
                  have hA6 := hA5 hB3 hsv' _ rfl
                  clear hA5 hA4 hA hsv' hB3 f0 f1 f2 s0 s1 s2 hAS
                  generalize ((((W3.alloc (.cells #[.int .i64 s'.1, .int .i64 s'.2.1, .slice va vm vc] 26)).setCell ⟨S, 0, none⟩ (.int .i64 s'.1)).setCell ⟨S, 1, none⟩ (.int .i64 s'.2.1)).setCell ⟨S, 2, none⟩ (.slice va vm vc)) = W6 at *
                  clear g1 g2 g3
                  go_wp2
                  exact ⟨fin hA6 z5 hql, by simp [intOf]⟩
              · subst z4
                cases b with
                | true =>
                  obtain ⟨rfl, rfl⟩ : en0 = 2 ∧ ev = 0 := by simpa [upW] using z5
                  have z7 : UpI s' c q true := z6
                  clear hE z5 z6
                  go_upto_region 30 with (go_at_call 14; refine (htk hA.sv hA.lt).mono ?_; clear htk; rintro en W3 ⟨u', rfl, hsv', hB3⟩; obtain ⟨va, vm, vc, rfl⟩ := hsv'.shape; have hA4 := hA.next (hB3.alloc (o := .cells (Nc.s s'.1 s'.2.1 (.slice va vm vc)) tyS) hB3.size); have f0 := hA4.box.frozen 0; have f1 := hA4.box.frozen 1; have f2 := hA4.box.frozen 2; have s0 := hA4.box.cell 0; have s1 := hA4.box.cell 1; have s2 := hA4.box.cell 2)
                  have hA6 := hA5 hB3 hsv' _ rfl
                  clear hA5 hA4 hA hsv' hB3 f0 f1 f2 s0 s1 s2 hAS
                  generalize ((((W3.alloc (.cells #[.int .i64 s'.1, .int .i64 s'.2.1, .slice va vm vc] 26)).setCell ⟨S, 0, none⟩ (.int .i64 s'.1)).setCell ⟨S, 1, none⟩ (.int .i64 s'.2.1)).setCell ⟨S, 2, none⟩ (.slice va vm vc)) = W6 at *
                  go_wp2
                  exact ⟨fin hA6 z7 hql, by simp [intOf]⟩
                | false =>
                  cases q with
                  | nil =>
                    obtain ⟨rfl, rfl⟩ : en0 = 1 ∧ ev = 0 := by simpa [upW] using z5
                    have z7 : UpI s' c [] false := z6
                    obtain ⟨qa, qc, rfl⟩ := hA.que.nil
                    clear hE z5 z6
                    go_upto_region 30 with (go_at_call 14; refine (htk hA.sv hA.lt).mono ?_; clear htk; rintro en W3 ⟨u', rfl, hsv', hB3⟩; obtain ⟨va, vm, vc, rfl⟩ := hsv'.shape; have hA4 := hA.next (hB3.alloc (o := .cells (Nc.s s'.1 s'.2.1 (.slice va vm vc)) tyS) hB3.size); have f0 := hA4.box.frozen 0; have f1 := hA4.box.frozen 1; have f2 := hA4.box.frozen 2; have s0 := hA4.box.cell 0; have s1 := hA4.box.cell 1; have s2 := hA4.box.cell 2)
                    have hA6 := hA5 hB3 hsv' _ rfl
                    clear hA5 hA4 hA hsv' hB3 f0 f1 f2 s0 s1 s2 hAS
                    generalize ((((W3.alloc (.cells #[.int .i64 s'.1, .int .i64 s'.2.1, .slice va vm vc] 26)).setCell ⟨S, 0, none⟩ (.int .i64 s'.1)).setCell ⟨S, 1, none⟩ (.int .i64 s'.2.1)).setCell ⟨S, 2, none⟩ (.slice va vm vc)) = W6 at *
                    go_wp2
                    exact ⟨fin hA6 z7 hql, by simp [intOf]⟩
                  | cons e r =>
                    obtain ⟨rfl, rfl⟩ : en0 = 3 ∧ ev = e := by simpa [upW] using z5
                    have z7 : UpI s' c r true := z6
                    have he0 : ev ≠ 0 := by rcases hE with h | h <;> first | exact h.2 | exact absurd rfl h.1
                    have g3 : (ev != 0) = true := by simpa using he0
                    obtain ⟨qb, qo, qc, rfl, hqc⟩ := hA.que.cons
                    clear hE z5 z6 he0
                    go_upto_region 30 with (go_at_call 14; refine (htk hA.sv hA.lt).mono ?_; clear htk; rintro en W3 ⟨u', rfl, hsv', hB3⟩; obtain ⟨va, vm, vc, rfl⟩ := hsv'.shape; have hA4 := hA.next (hB3.alloc (o := .cells (Nc.s s'.1 s'.2.1 (.slice va vm vc)) tyS) hB3.size); have f0 := hA4.box.frozen 0; have f1 := hA4.box.frozen 1; have f2 := hA4.box.frozen 2; have s0 := hA4.box.cell 0; have s1 := hA4.box.cell 1; have s2 := hA4.box.cell 2)
                    have hA6 := hA5 hB3 hsv' _ rfl
                    clear hA5 hA4 hA hsv' hB3 f0 f1 f2 s0 s1 s2 hAS
                    generalize ((((W3.alloc (.cells #[.int .i64 s'.1, .int .i64 s'.2.1, .slice va vm vc] 26)).setCell ⟨S, 0, none⟩ (.int .i64 s'.1)).setCell ⟨S, 1, none⟩ (.int .i64 s'.2.1)).setCell ⟨S, 2, none⟩ (.slice va vm vc)) = W6 at *
                    obtain ⟨q0, q1, q2⟩ := hA6.que.head
                    have hr0 : (0 : Int) < (r.length : Int) + 1 := by omega
                    clear g3
                    by_cases hc1 : qc = 1
                    · obtain ⟨q3, rfl⟩ := q2 hc1
                      subst hc1
                      have hA7 : Kq.At w W6.drew S B s' (.slice va vm vc) (.slice (some ⟨qb, qo, none⟩) 0 0) [] := Kq.At.next ⟨hA6.bel, hA6.hS, hA6.box, hA6.sv, q3⟩ (Below.refl _ W6).drew
                      clear q1 q2 q3 hA6 hqc hr0
                      go_wp2
                      go_region
                      all_goals go_wp2
                      exact ⟨fin hA7 z7 (Nat.zero_le _), by simp [intOf]⟩
                    · have hA7 : Kq.At w W6.drew S B s' (.slice va vm vc) (.slice (some ⟨qb, qo + 1, none⟩) r.length (qc - 1)) r := Kq.At.next ⟨hA6.bel, hA6.hS, hA6.box, hA6.sv, q1⟩ (Below.refl _ W6).drew
                      clear q1 q2 hA6
                      go_wp2
                      go_region
                      all_goals go_wp2
                      exact ⟨fin hA7 z7 (by simp at hql; omega), by simp [intOf]⟩
      · have h1 : (k : Int) < (l.length : Int) := by omega
        have h2 : ¬ (k : Int) < 120 := by omega
        go_wp2_with (go_at_call 10; refine Kq.awk.mono ?_; rintro en W3 ⟨rfl, hB3⟩)
        exact ⟨rfl, _, Kq.res rfl, rfl, hA.bel.trans (hB3.mono hA.bel.size)⟩
    · have h1 : ¬ (k : Int) < (l.length : Int) := by omega
      go_wp2_with (go_at_call 10; refine Kq.awk.mono ?_; rintro en W3 ⟨rfl, hB3⟩)
      exact ⟨rfl, _, Kq.res rfl, rfl, hA.bel.trans (hB3.mono hA.bel.size)⟩
end Go.Proofs
/-
  Layer 30: SchedUpcalls: what its walk says. By an AI agent.
-/
namespace Go.Proofs
open Go.RowKit Go.Shelf Go.AL
set_option linter.unusedVariables false
set_option linter.unusedSimpArgs false
theorem uup_law : ∀ a : ArgT [.rd tSSp, .c (.int .i64)], ArgsW [.rd tSSp, .c (.int .i64)] a → ∀ vs, ArgsV [.rd tSSp, .c (.int .i64)] a vs → FnP Try.prog 9 vs (RessV [.v .bool] (true : Bool)) := by
  rintro ⟨l, which⟩ _ vs hv
  have hv : ArgsV [.rd tSSp, .c (.int .i64)] ((l, which) : List SSp × Int) vs := hv
  have q : ArgsV [.rd tSSp, .c (.int .i64)] ((l, which) : List SSp × Int) vs = ∃ v r, vs = v :: r ∧ ArgV (.rd tSSp) l v ∧ ∃ v1, r = [v1] ∧ ArgV (.c (.int .i64)) which v1 := rfl
  rw [q] at hv
  obtain ⟨v, r, rfl, k0, v1, rfl, k1⟩ := hv
  refine ⟨fun rds h => resOK _ _ rds h, fun w A us hA hsz hrel => ?_⟩
  obtain ⟨u0, a0, b0⟩ := hrel 0 _ rfl
  obtain ⟨u1, a1, b1⟩ := hrel 1 _ rfl
  have k1 := tyV_int.1 k1
  subst k1
  have b1 : RelP w A (.int .i64 which) u1 := b1
  cases b1
  have hus : us = #[u0, .int .i64 which] := by
    obtain ⟨l2⟩ := us
    match l2, hsz, a0, a1 with
    | [x0, x1], _, a0, a1 =>
      simp at a0 a1
      rw [a0, a1]
  subst hus
  refine (Kq.walk w l which u0 (ArgAt.of hA k0 b0)).mono fun en W h => ?_
  obtain ⟨rfl, hB⟩ := h
  have hob : ∀ o ob, rdH [RD.v (.bool true)] o = some ob → False := fun o ob h => by
    match o, h with
    | 0, h => cases h
    | o + 1, h => simp [rdH] at h
  refine ⟨[.v (.bool true)], [.bool true], noB, A, ⟨_, rfl, _, rfl, tyV_bool.2 rfl⟩, rfl, rfl, ⟨fun o ob ho => (hob o ob ho).elim, fun o o' ob ob' b h1 _ _ _ => (hob o ob h1).elim, fun b hb => Nat.lt_of_lt_of_le (hA b hb) hB.size⟩, fun k rd hk => ?_, fun b _ h => h, ⟨hB.os, hB.tape, hB.output, hB.size, fun q hq _ => hB.block q hq⟩, fun k ob b h1 _ => (hob k ob h1).elim⟩
  match k, hk with
  | 0, hk => simp at hk; subst hk; exact ⟨_, rfl, RelP.bool _⟩
  | k + 1, hk => simp at hk
end Go.Proofs
