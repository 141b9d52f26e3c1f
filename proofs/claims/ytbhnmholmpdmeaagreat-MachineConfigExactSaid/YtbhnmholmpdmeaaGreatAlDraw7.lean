/-
  THE ABSTRACT LAYER: a region that draws, whose last operations come one by one. By an AI agent.
-/
import Derived.Test.YtbhnmholmpdmeaaGreatAlDraw6
namespace Go.AL
set_option linter.unusedVariables false
set_option linter.unusedSimpArgs false
set_option linter.unusedSectionVars false

def cutO (m : Nat) (ops : Array Oper) : Array Oper := (ops.toList.take m).toArray
def flags (N i : Nat) : Array Bool := (List.replicate i true ++ List.replicate (N - i) false).toArray
def backOK (ops : Array Oper) (m : Nat) : Bool := (List.range ops.size).all fun i => match ops[i]? with
  | none => false
  | some o => (o.after.toList.all fun e => !Region.binds .any e || Nat.blt e.on i) && (match o.guard with | none => true | some (j, _) => Nat.blt j i) &&
      (Nat.blt i m || ((List.range m).all fun k => o.after.toList.any fun e => Region.binds .any e && Nat.beq e.on k))
def chainOK (ops : Array Oper) (m : Nat) : Bool := (List.range (ops.size - m)).all fun j => Region.ready .any ops (flags ops.size (m + j)) == [m + j]
def tailOK (ops : Array Oper) (m : Nat) : Bool := Nat.beq m ops.size || (backOK ops m && chainOK ops m && Nat.ble m ops.size)

section
variable {P : Program} {n : Nat} {w0 : World} {I : Imp} {A0 : Nat → Prop}

theorem flags_getD {N i j : Nat} (hj : j < N) (d : Bool) : (flags N i).getD j d = decide (j < i) ∨ N < i := by
  by_cases hN : N < i
  · exact .inr hN
  left
  unfold flags
  simp only [Array.getD_eq_getD_getElem?, List.getElem?_toArray]
  by_cases h : j < i
  · rw [List.getElem?_append_left (by simpa using h)]; simp [h]
  · rw [List.getElem?_append_right (by simp; omega)]
    have : j - i < N - i := by omega
    simp [h, this]

theorem flags_set {N i : Nat} (h : i < N) : (flags N i).setIfInBounds i true = flags N (i + 1) := by
  apply Array.ext_getElem?
  intro k
  rw [Array.getElem?_setIfInBounds]
  unfold flags
  simp only [List.getElem?_toArray, List.size_toArray, List.length_append, List.length_replicate]
  by_cases hk : i = k
  · subst hk
    rw [if_pos rfl, if_pos (by omega), List.getElem?_append_left (by simp)]
    simp
  · rw [if_neg hk]
    by_cases h1 : k < i
    · rw [List.getElem?_append_left (by simpa using h1), List.getElem?_append_left (by simp; omega)]
      simp [h1, show k < i + 1 by omega]
    · rw [List.getElem?_append_right (by simp; omega), List.getElem?_append_right (by simp; omega)]
      by_cases h2 : k < N
      · simp [show k - i < N - i by omega, show k - (i + 1) < N - (i + 1) by omega]
      · simp [show ¬ k - i < N - i by omega, show ¬ k - (i + 1) < N - (i + 1) by omega]

theorem chain_any {ops : Array Oper} {m : Nat} (hc : chainOK ops m = true) {Q : Exit → Act → World → Prop} : ∀ (t i : Nat) (a : Act) (w : World), m ≤ i → ops.size = i + t → wpList P ops Q (ops.toList.drop i) a w → wpAny P .any ops Q t (flags ops.size i) a w
  | 0, i, a, w, _, hi, h => by
    have hi : ops.size = i := by omega
    rw [List.drop_eq_nil_of_le (by simp; omega)] at h
    have hr : Region.ready .any ops (flags ops.size i) = [] := by
      unfold Region.ready
      rw [List.filter_eq_nil_iff]
      intro j hj
      have hj : j < ops.size := by simpa using hj
      rcases flags_getD (i := i) hj true with h1 | h1
      · rw [h1, decide_eq_true (by omega)]; simp
      · omega
    exact ⟨hr, h⟩
  | t + 1, i, a, w, hm, hi, h => by
    have hil : i < ops.size := by omega
    have hr : Region.ready .any ops (flags ops.size i) = [i] := by
      have := List.all_eq_true.1 hc (i - m) (by simp; omega)
      rw [show m + (i - m) = i by omega] at this
      simpa using this
    refine ⟨fun h0 => (by rw [hr] at h0; cases h0), fun j hj => ?_⟩
    rw [hr] at hj
    simp at hj
    subst hj
    rw [flags_set hil]
    have hd : ops.toList.drop j = ops[j] :: ops.toList.drop (j + 1) := by
      rw [List.drop_eq_getElem_cons (by simpa using hil)]; simp
    rw [hd] at h
    unfold wpOp
    rw [Array.getElem?_eq_getElem hil]
    unfold wpList at h
    have mono : ∀ a' w', wpList P ops Q (ops.toList.drop (j + 1)) a' w' → wpAny P .any ops Q t (flags ops.size (j + 1)) a' w' := fun a' w' h' => chain_any hc t (j + 1) a' w' (by omega) (by omega) h'
    simp only
    split
    · rename_i hw
      simp only [hw, if_true] at h
      exact h.imp (Oper.wp_mono mono) id
    · rename_i hw
      simp only [hw] at h
      exact mono _ _ h

theorem cutO_get {m : Nat} {ops : Array Oper} {i : Nat} (h : i < m) : (cutO m ops)[i]? = ops[i]? := by
  unfold cutO
  rw [List.getElem?_toArray, List.getElem?_take, if_pos h, Array.getElem?_toList]
theorem cutO_size {m : Nat} {ops : Array Oper} (h : m ≤ ops.size) : (cutO m ops).size = m := by simp [cutO]; omega
theorem cutO_all {ops : Array Oper} : cutO ops.size ops = ops := by
  apply Array.ext'
  show List.take ops.size ops.toList = ops.toList
  exact List.take_of_length_le (by simp)

structure Back (ops : Array Oper) (m : Nat) : Prop where
  on : ∀ (i : Nat) (o : Oper), ops[i]? = some o → ∀ e ∈ o.after.toList, Region.binds .any e = true → e.on < i
  guard : ∀ (i : Nat) (o : Oper), ops[i]? = some o → ∀ (j : Nat) (want : Bool), o.guard = some (j, want) → j < i
  wait : ∀ (i : Nat) (o : Oper), ops[i]? = some o → m ≤ i → ∀ k, k < m → ∃ e ∈ o.after.toList, Region.binds .any e = true ∧ e.on = k
theorem backOK_spec {ops : Array Oper} {m : Nat} (h : backOK ops m = true) : Back ops m := by
  have key : ∀ (i : Nat) (o : Oper), ops[i]? = some o → (o.after.toList.all fun e => !Region.binds .any e || Nat.blt e.on i) = true ∧ (match o.guard with | none => true | some (j, _) => Nat.blt j i) = true ∧
      (Nat.blt i m || ((List.range m).all fun k => o.after.toList.any fun e => Region.binds .any e && Nat.beq e.on k)) = true := fun i o ho => by
    have hi : i < ops.size := (Array.getElem?_eq_some_iff.1 ho).1
    have := List.all_eq_true.1 h i (by simpa using hi)
    rw [ho] at this
    simp only [Bool.and_eq_true] at this
    exact ⟨this.1.1, this.1.2, this.2⟩
  refine ⟨fun i o ho e he hb => ?_, fun i o ho j want hg => ?_, fun i o ho hm k hk => ?_⟩
  · have := List.all_eq_true.1 (key i o ho).1 e he
    rw [hb] at this
    simpa [Nat.blt_eq] using this
  · have := (key i o ho).2.1
    rw [hg] at this
    simpa [Nat.blt_eq] using this
  · have := (key i o ho).2.2
    have hnb : Nat.blt i m = false := by
      cases hb : Nat.blt i m with
      | false => rfl
      | true => have : i < m := by simpa [Nat.blt_eq] using hb
                omega
    rw [hnb, Bool.false_or] at this
    obtain ⟨e, he, h2⟩ := List.any_eq_true.1 (List.all_eq_true.1 this k (by simpa using hk))
    obtain ⟨h3, h4⟩ := Bool.and_eq_true_iff.1 h2
    exact ⟨e, he, h3, Nat.eq_of_beq_eq_true h4⟩

def ext (L : Array Bool) (t : Nat) : Array Bool := L ++ Array.replicate t false
theorem ext_lt {L : Array Bool} {t i : Nat} (h : i < L.size) (d : Bool) : (ext L t).getD i d = L.getD i d := by
  unfold ext
  rw [Array.getD_eq_getD_getElem?, Array.getD_eq_getD_getElem?, Array.getElem?_append_left h]
theorem ext_set {L : Array Bool} {t i : Nat} (h : i < L.size) : (ext L t).setIfInBounds i true = ext (L.setIfInBounds i true) t := by
  apply Array.ext_getElem?
  intro k
  unfold ext
  rw [Array.getElem?_setIfInBounds]
  by_cases hk : i = k
  · subst hk
    rw [if_pos rfl, if_pos (by simp; omega), Array.getElem?_append_left (by simpa using h), Array.getElem?_setIfInBounds, if_pos rfl, if_pos h]
  · rw [if_neg hk]
    by_cases h1 : k < L.size
    · rw [Array.getElem?_append_left h1, Array.getElem?_append_left (by simpa using h1), Array.getElem?_setIfInBounds, if_neg hk]
    · rw [Array.getElem?_append_right (by omega), Array.getElem?_append_right (by simp; omega)]
      simp
def open_ (L : Array Bool) : Nat := L.toList.countP (fun b => !b)
theorem open_set {L : Array Bool} {i : Nat} (h : i < L.size) (hf : L.getD i true = false) : open_ (L.setIfInBounds i true) + 1 = open_ L := by
  unfold open_
  have hl : L.toList[i]? = some false := by
    rw [Array.getElem?_toList, Array.getElem?_eq_getElem h]
    rw [Array.getD_eq_getD_getElem?, Array.getElem?_eq_getElem h] at hf
    simpa using hf
  rw [Array.toList_setIfInBounds]
  generalize L.toList = l at hl
  clear h hf
  induction l generalizing i with
  | nil => simp at hl
  | cons b l ih =>
    cases i with
    | zero => simp at hl; subst hl; simp
    | succ i =>
      simp only [List.set_cons_succ, List.countP_cons]
      have := ih (i := i) (by simpa using hl)
      omega
theorem open_zero {L : Array Bool} (h : open_ L = 0) (t : Nat) : ext L t = flags (L.size + t) L.size := by
  unfold open_ at h
  rw [List.countP_eq_zero] at h
  have e : L.toList = List.replicate L.size true := by
    rw [List.eq_replicate_iff]
    exact ⟨by simp, fun b hb => by have := h b hb; simpa using this⟩
  apply Array.ext'
  unfold ext flags
  rw [Array.toList_append, e]
  simp
theorem open_some {L : Array Bool} : 0 < open_ L → ∃ i, i < L.size ∧ L.getD i true = false ∧ ∀ k, k < i → L.getD k false = true := by
  intro h
  have hex : ∃ i, i < L.size ∧ L.getD i true = false := by
    unfold open_ at h
    obtain ⟨b, hb, h2⟩ := List.countP_pos_iff.1 h
    obtain ⟨i, hi⟩ := List.getElem?_of_mem hb
    have hil : i < L.size := by have := (List.getElem?_eq_some_iff.1 hi).1; simpa using this
    refine ⟨i, hil, ?_⟩
    rw [Array.getD_eq_getD_getElem?]
    rw [Array.getElem?_toList] at hi
    rw [hi]
    simpa using h2
  have : ∀ n, (∃ i, i < n ∧ i < L.size ∧ L.getD i true = false) → ∃ i, i < L.size ∧ L.getD i true = false ∧ ∀ k, k < i → L.getD k false = true := by
    intro n
    induction n with
    | zero => rintro ⟨i, h, _⟩; omega
    | succ n ih =>
      rintro ⟨i, hi, h1, h2⟩
      by_cases hx : ∃ i, i < n ∧ i < L.size ∧ L.getD i true = false
      · exact ih hx
      · refine ⟨i, h1, h2, fun k hk => ?_⟩
        have hkl : k < L.size := by omega
        cases hb : L.getD k false with
        | true => rfl
        | false =>
          refine absurd ⟨k, by omega, hkl, ?_⟩ hx
          rw [Array.getD_eq_getD_getElem?, Array.getElem?_eq_getElem hkl] at hb ⊢
          exact hb
  obtain ⟨i, h1, h2⟩ := hex
  exact this (i + 1) ⟨i, by omega, h1, h2⟩

theorem ready_ext {ops : Array Oper} {m t : Nat} (B : Back ops m) (hs : ops.size = m + t) {L : Array Bool} (hL : L.size = m) (ho : 0 < open_ L) :
    Region.ready .any ops (ext L t) = Region.ready .any (cutO m ops) L ∧ Region.ready .any (cutO m ops) L ≠ [] := by
  have same : ∀ i, i < m → ((ops[i]?).map (·.after.all fun e => !Region.binds .any e || (ext L t).getD e.on false)).getD false = (((cutO m ops)[i]?).map (·.after.all fun e => !Region.binds .any e || L.getD e.on false)).getD false := fun i hi => by
    rw [cutO_get hi]
    cases hx : ops[i]? with
    | none => rfl
    | some o =>
      simp only [Option.map_some, Option.getD_some]
      rw [← Array.all_toList, ← Array.all_toList, Bool.eq_iff_iff, List.all_eq_true, List.all_eq_true]
      have hone : ∀ e ∈ o.after.toList, (!Region.binds .any e || (ext L t).getD e.on false) = (!Region.binds .any e || L.getD e.on false) := fun e he => by
        cases hb : Region.binds .any e with
        | false => rfl
        | true => rw [ext_lt (by have := B.on i o hx e he hb; omega)]
      constructor
      · intro h e he; rw [← hone e he]; exact h e he
      · intro h e he; rw [hone e he]; exact h e he
  obtain ⟨i0, hi0, hf0, hlow⟩ := open_some ho
  constructor
  · unfold Region.ready
    rw [hs, cutO_size (by omega), List.range_add, List.filter_append]
    have h2 : ((List.range t).map (m + ·)).filter (fun i => !(ext L t).getD i true && ((ops[i]?).map (·.after.all fun e => !Region.binds .any e || (ext L t).getD e.on false)).getD false) = [] := by
      rw [List.filter_eq_nil_iff]
      intro i hi hc
      obtain ⟨k, hk, rfl⟩ := List.mem_map.1 hi
      have hk : k < t := by simpa using hk
      have hx : ops[m + k]? = some (ops[m + k]'(by omega)) := Array.getElem?_eq_getElem _
      obtain ⟨_, h3⟩ := Bool.and_eq_true_iff.1 hc
      rw [hx] at h3
      simp only [Option.map_some, Option.getD_some] at h3
      obtain ⟨e, he, hb, hon⟩ := B.wait _ _ hx (by omega) i0 (by omega)
      rw [← Array.all_toList] at h3
      have := List.all_eq_true.1 h3 e he
      rw [hb, hon, ext_lt hi0] at this
      simp only [Bool.not_true, Bool.false_or] at this
      rw [Array.getD_eq_getD_getElem?, Array.getElem?_eq_getElem hi0] at this hf0
      simp at this hf0
      rw [this] at hf0; cases hf0
    rw [h2, List.append_nil]
    apply List.filter_congr
    intro i hi
    have hi : i < m := by simpa using hi
    rw [same i hi, ext_lt (by omega)]
  · intro h
    unfold Region.ready at h
    rw [cutO_size (by omega), List.filter_eq_nil_iff] at h
    refine h i0 (by simpa [hL] using hi0) ?_
    rw [hf0, Bool.not_false, Bool.true_and, cutO_get (by omega)]
    have hx : ops[i0]? = some (ops[i0]'(by omega)) := Array.getElem?_eq_getElem _
    rw [hx]
    simp only [Option.map_some, Option.getD_some]
    rw [← Array.all_toList, List.all_eq_true]
    intro e he
    cases hb : Region.binds .any e with
    | false => rfl
    | true => rw [hlow _ (B.on _ _ hx e he hb)]; rfl

theorem gst_cut {ops : Array Oper} {m : Nat} (B : Back ops m) {i : Nat} {o : Oper} (ho : ops[i]? = some o) (hi : i < m) (s : St) : gst (cutO m ops) o s = gst ops o s := by
  unfold gst
  cases hg : o.guard with
  | none => rfl
  | some q =>
    obtain ⟨j, want⟩ := q
    have := B.guard i o ho j want hg
    simp only
    rw [cutO_get (by omega)]

theorem anyA_soundC {ops : Array Oper} {m t : Nat} (B : Back ops m) (hs : ops.size = m + t) {Φ : St → Prop} {Q' : Exit → Act → World → Prop} (hQ : ∀ s a w, Φ s → RR w0 I A0 n s a w → wpAny P .any ops Q' t (flags ops.size m) a w) :
    ∀ (f : Nat) (L : Array Bool) (s : St) (a : Act) (w : World), L.size = m → open_ L = f → anyA P n (cutO m ops) Φ f L s → RR w0 I A0 n s a w → wpAny P .any ops Q' (f + t) (ext L t) a w
  | 0, L, s, a, w, hL, ho, h, hR => by
    rw [open_zero ho, hL, ← hs, Nat.zero_add]
    exact hQ s a w h.2 hR
  | f + 1, L, s, a, w, hL, ho, h, hR => by
    obtain ⟨r1, r2⟩ := ready_ext B hs hL (by omega)
    rw [show f + 1 + t = (f + t) + 1 by omega]
    refine ⟨fun h0 => absurd (r1 ▸ h0) r2, fun i hi => ?_⟩
    rw [r1] at hi
    have h2 := h.2 i hi
    obtain ⟨hun, _⟩ := mem_ready.1 hi
    have him : i < m := by
      unfold Region.ready at hi
      have := (List.mem_filter.1 hi).1
      rw [cutO_size (by omega)] at this
      simpa using this
    have hset := open_set (L := L) (i := i) (by omega) hun
    unfold wpOp
    rw [ext_set (by omega)]
    rw [cutO_get him] at h2
    split
    · rename_i hn
      rw [hn] at h2
      exact anyA_soundC B hs hQ f _ s a w (by simpa using hL) (by omega) h2 hR
    · rename_i o hx
      rw [hx] at h2
      have h2 : aStep P n (cutO m ops) o (anyA P n (cutO m ops) Φ f (L.setIfInBounds i true)) s := h2
      have h3 : aStep P n ops o (anyA P n (cutO m ops) Φ f (L.setIfInBounds i true)) s := by
        unfold aStep at h2 ⊢
        rw [gst_cut B hx him] at h2
        exact h2
      exact aStep_sound (fun s' a' w' hs' hR' => anyA_soundC B hs hQ f _ s' a' w' (by simpa using hL) (by omega) hs' hR') hR h3

theorem region_soundC {id : Nat} {ops : Array Oper} {m : Nat} {perm : List (Nat × List Nat)} {ks : List (Nat × Nat)} {Φ : St → Prop} {Q' : Exit → Act → World → Prop} (hm : P.follows .mixedOrders = true) (ht : tailOK ops m = true) (hr : regionOK (cutO m ops) perm ks = true)
    (hQ : ∀ s a w, Φ s → RR w0 I A0 n s a w → wpList P ops Q' (ops.toList.drop m) a w)
    {s : St} {a : Act} {w : World} (hR : RR w0 I A0 n s a w) (h : seqD P n (cutO m ops) Φ perm (s.kill (KI ks))) : (Code.region id ops true).wp P Q' a w := by
  unfold tailOK at ht
  cases hb : Nat.beq m ops.size with
  | true =>
    have := Nat.eq_of_beq_eq_true hb
    subst this
    rw [cutO_all] at hr h
    refine region_sound hm hr (fun s a w hs hR' => ?_) hR h
    have h1 := hQ s a w hs hR'
    rw [List.drop_eq_nil_of_le (by simp)] at h1
    exact h1
  | false =>
    rw [hb, Bool.false_or] at ht
    simp only [Bool.and_eq_true] at ht
    have B := backOK_spec ht.1.1
    have hle : m ≤ ops.size := by have := ht.2; simpa using this
    obtain ⟨t, ht2⟩ : ∃ t, ops.size = m + t := ⟨ops.size - m, by omega⟩
    simp only [regionOK, Bool.and_eq_true] at hr
    obtain ⟨hperm, hks⟩ := hr
    simp only [drawOK, Bool.and_eq_true, beq_iff_eq] at hperm
    obtain ⟨⟨hD, hlen⟩, hlex⟩ := hperm
    refine wp_region_any hm ?_
    obtain ⟨β, A, R⟩ := hR
    obtain ⟨R2, hok⟩ := (R.drew (w.drawn + 1)).killAll (KI ks)
    have hok' : okS (Kp (cutO m ops) (Array.replicate (cutO m ops).size false)) (s.kill (KI ks)) := hok.mono fun p hp => by
      obtain ⟨i, o, ho, _, hd⟩ := Kp_iff.1 hp
      rw [Array.all_eq_true] at hks
      have hlt : i < (cutO m ops).size := by
        rcases Nat.lt_or_ge i (cutO m ops).size with h | h
        · exact h
        · rw [Array.getElem?_eq_none h] at ho; cases ho
      have h1 := hks i hlt
      have h2 : (cutO m ops)[i] = o := by simpa [hlt] using ho
      rw [h2, hd] at h1
      simpa [KI] using h1
    have hsz := cutO_size hle
    have h9 := anyA_soundC B ht2 (fun s' a' w' hs' hR' => chain_any ht.1.2 t m a' w' (Nat.le_refl _) ht2 (hQ s' a' w' hs' hR')) m (Array.replicate (cutO m ops).size false) _ _ _ (by simp [hsz]) (by simp [open_, hsz, List.countP_replicate]) (by
      have := seqD_any hD perm _ _ hlex hok' h
      rw [hlen, hsz] at this
      rw [hsz]
      exact this) ⟨_, _, R2⟩
    have e : ext (Array.replicate (cutO m ops).size false) t = Array.replicate ops.size false := by
      apply Array.ext'
      simp [ext, hsz, ht2]
    rw [e, ← ht2] at h9
    exact h9
end
end Go.AL
