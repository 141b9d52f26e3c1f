/-
  THE ABSTRACT LAYER, SIXTH PART: the operations that make memory or write it. By an AI agent.
-/
import Derived.Test.YtbhnmholmpdmeaaGreatAlStep
namespace Go.AL
set_option linter.unusedVariables false
set_option linter.unusedSimpArgs false
set_option linter.unusedSectionVars false

structure Src (E : Env) (es : Nat) (rows : List (List V)) (u : Value) (m : Nat) : Prop where
  len : m = rows.length
  src : (rows = [] ∧ ∃ (a : Option Addr) (c : Nat), u = .slice a 0 c) ∨ ∃ (b off c : Nat) (F : Nat → Value), u = .slice (some ⟨b, off, none⟩) rows.length c ∧
    (∀ k, k < rows.length * es → E.w.cell? ⟨b, off + k, none⟩ = some (F k)) ∧
    (∀ (i : Nat) (row : List V), rows[i]? = some row → ∀ (j : Nat) (x : V), row[j]? = some x → RelP E.w E.A x (F (i * es + j)))

theorem Src.of_slAt {E : Env} {X : Nat → Prop} {es : Nat} {rows : List (List V)} {u : Value} (hes : ∀ r ∈ rows, r.length = es) (hpos : 0 < es) (h : SlAt E.w E.A X rows u) : Src E es rows u rows.length := by
  refine ⟨rfl, ?_⟩
  rcases h with ⟨⟨a, rfl⟩, rfl⟩ | ⟨b, off, cap, es', f, rfl, hcap, hb, hes', hc, hr⟩
  · exact .inl ⟨rfl, _, _, rfl⟩
  · refine .inr ⟨b, off, cap, fun k => f (k / es) (k % es), rfl, fun k hk => ?_, fun i row hi j x hx => ?_⟩
    · have hlt : k / es < rows.length := Nat.div_lt_of_lt_mul (by rw [Nat.mul_comm]; exact hk)
      obtain ⟨row, hrow⟩ : ∃ row, rows[k / es]? = some row := ⟨_, List.getElem?_eq_getElem hlt⟩
      have h1 := hes row (List.mem_of_getElem? hrow)
      have h2 := hes' row (List.mem_of_getElem? hrow)
      have hm : k % es < row.length := by rw [h1]; exact Nat.mod_lt _ hpos
      obtain ⟨x, hx⟩ : ∃ x, row[k % es]? = some x := ⟨_, List.getElem?_eq_getElem hm⟩
      have := hc _ row hrow _ x hx
      rw [← h2, h1] at this
      rw [← this]
      congr 2
      have := Nat.div_add_mod k es
      rw [Nat.mul_comm] at this
      omega
    · have h1 := hes row (List.mem_of_getElem? hi)
      have hj : j < es := by rw [← h1]; exact (List.getElem?_eq_some_iff.1 hx).1
      have e1 : (i * es + j) / es = i := by
        rw [Nat.mul_comm, Nat.mul_add_div hpos, Nat.div_eq_of_lt hj]; simp
      have e2 : (i * es + j) % es = j := by
        rw [Nat.mul_comm, Nat.mul_add_mod, Nat.mod_eq_of_lt hj]
      simp only [e1, e2]
      exact hr i row hi j x hx

theorem Src.of_rowsOf {E : Env} (H : ObsOK E) {es : Nat} {y : V} {rows : List (List V)} {u : Value} (hy : Rel E y u) (h : rowsOf E.h y = some rows) (hes : ∀ r ∈ rows, r.length = es) (hpos : 0 < es) : Src E es rows u rows.length := by
  unfold rowsOf at h
  split at h <;> try (cases h; done)
  · cases h; cases hy; exact ⟨rfl, .inl ⟨rfl, _, _, rfl⟩⟩
  · cases h; exact Src.of_slAt hes hpos (rel_slAt_sl hy)
  · cases h; exact Src.of_slAt hes hpos hy
  · cases h; cases hy; exact ⟨rfl, .inl ⟨rfl, _, _, rfl⟩⟩
  · rename_i o n
    split at h <;> try (cases h; done)
    rename_i ob ho
    split at h <;> try (cases h; done)
    rename_i hc
    cases h
    obtain ⟨hn, himp⟩ := hc
    have h2 := (hy ob ho).2 hn
    have hok := H.ok o ob ho
    refine ⟨rfl, ?_⟩
    cases hb : E.β o with
    | none =>
      rw [hb] at h2 hok
      exact .inl ⟨hok, none, 0, by have h0 : ob.rows = [] := hok; exact h2⟩
    | some b =>
      rw [hb] at h2 hok
      obtain ⟨cap, cur, rfl, h3, h4, h5, h6⟩ := h2
      obtain ⟨_, cur', hh, hes', hlen, hcc⟩ := hok
      have : cur' = cur := by rw [h5] at hh; simp at hh; exact hh.symm
      subst this
      by_cases hr : ob.rows = []
      · exact .inl ⟨hr, some ⟨b, 0, none⟩, cap, by rw [hn, hr]; rfl⟩
      obtain ⟨r0, hr0⟩ := List.exists_mem_of_ne_nil _ hr
      have hee : ob.es = es := by rw [← hes' r0 hr0, hes r0 hr0]
      refine .inr ⟨b, 0, cap, fun k => (cur'[k]?).getD undef, by rw [hn], fun k hk => ?_, fun i row hi j x hx => ?_⟩
      · rw [cell_of_row E.w b _ cur' ob.ty (0, 0) hh]
        have hlt : k < cur'.size := by rw [← hee] at hk; omega
        simp [hlt]
      · obtain ⟨v, c1, c2, c3, c4⟩ := hcc i row hi j x hx
        rw [hee] at c1
        simp only [c1, Option.getD_some]
        exact c4 himp

section
variable {P : Program} {w0 : World} {I : Imp} {A0 : Nat → Prop} {n : Nat} {s : St} {a : Act} {w : World} {β : Nat → Option Nat} {A : Nat → Prop}

theorem flat_news {es m : Nat} {b off : Nat} {F : Nat → Value} (w : World) (hc : ∀ k, k < m * es → w.cell? ⟨b, off + k, none⟩ = some (F k)) :
    ((List.range (m * es)).map F).length = m * es ∧ ∀ (j : Nat) (v : Value), ((List.range (m * es)).map F)[j]? = some v → w.cell? ((⟨b, off, none⟩ : Addr).add j) = some v := by
  refine ⟨by simp, fun j v hv => ?_⟩
  rw [Addr.add_mid]
  have hj : j < m * es := by
    have := (List.getElem?_eq_some_iff.1 hv).1
    simpa using this
  simp [hj] at hv
  rw [hc j hj, hv]

theorem RB.appendNil (R : RB w0 I A0 n s a w β A) {t e : TypeId} (ht : elemT P t = some e) (hpos : 0 < szOf P e) (hz : (zeroCs P e).isSome) {new : List (List V)} {y : V} {u : Value} (hy : Rel ⟨w, A, s.h, β⟩ y u) (hrows : rowsOf s.h y = some new)
    (hes : ∀ r ∈ new, r.length = szOf P e) (hbytes : new.length * bytesOf P e ≤ 140737488355328) (hm : new.length ≤ maxLen) (ty : TypeId) (d : Nat) (hd : d < n) :
    ∃ r w', (Builtin.append_ #[t, t] ty #[.slice none 0 0, u]).run P w = .ok r w' ∧ RRf w0 I A0 n (s.new d ⟨e, szOf P e, false, new⟩ (.ref d new.length)) (a.put (some d) r) w' d := by
  have hu := elemT_some ht
  obtain ⟨ti, hti, hsz⟩ := szOf_eq (P := P) (t := e) rfl hpos
  obtain ⟨zz, hzz⟩ := Option.isSome_iff_exists.1 hz
  obtain ⟨ti', zv, hti', hzv, hzs, _⟩ := zeroCs_some hzz
  rw [hti] at hti'
  cases hti'
  have hby : bytesOf P e = ti.bytes := by simp [bytesOf, hti]
  have hsrc := Src.of_rowsOf R.obs hy hrows hes hpos
  rcases hsrc.src with ⟨hnil, a', c', rfl⟩ | ⟨b, off, c, F, rfl, hc, hr⟩
  · refine ⟨.slice none 0 0, w, ?_, ?_⟩
    · cases a' <;> simp [Builtin.append_, run_underlying hu, sizeOf, typeInfo, hti, Builtin.lenOf, Builtin.firstCells, loadCells, loadCellsFrom]
    · have := R.newNil d ⟨e, szOf P e, false, new⟩ hnil (some d) (fun k hk => by cases hk; exact hd) (.ref d 0) (.slice none 0 0) (.inr ⟨rfl, rfl⟩) hd
      rw [hnil]
      rw [hnil] at this
      exact ⟨_, _, this, fun b h => by simp at h⟩
  · by_cases hz0 : new.length = 0
    · have hnil : new = [] := List.eq_nil_of_length_eq_zero hz0
      refine ⟨.slice none 0 0, w, ?_, ?_⟩
      · simp [hz0, Builtin.append_, run_underlying hu, sizeOf, typeInfo, hti, Builtin.lenOf, Builtin.firstCells, loadCells, loadCellsFrom]
      · have := R.newNil d ⟨e, szOf P e, false, new⟩ hnil (some d) (fun k hk => by cases hk; exact hd) (.ref d 0) (.slice none 0 0) (.inr ⟨rfl, rfl⟩) hd
        rw [hnil]
        rw [hnil] at this
        exact ⟨_, _, this, fun b h => by simp at h⟩
    · obtain ⟨f1, f2⟩ := flat_news w hc
      have hrun := run_append_nil (P := P) w t ty e ti zv hu hti hzv ⟨b, off, none⟩ new.length c ((List.range (new.length * szOf P e)).map F) (by rw [f1, hsz]) f2 (by omega) (by simp only [maxLen] at hm; omega) (by rw [← hby]; omega)
      have hge := grownCap_ge w new.length 0 e
      have hcm := grownCap_le_maxLen w new.length 0 e hm
      obtain ⟨cur, hcur⟩ : ∃ cur, cur = (List.map F (List.range (new.length * szOf P e))).toArray ++ Builtin.zeroCells zv.cells (grownCap w new.length 0 e - new.length) := ⟨_, rfl⟩
      rw [← hcur] at hrun
      refine ⟨_, _, hrun, _, _, R.new d hd ⟨e, szOf P e, false, new⟩ cur (w.drew.alloc (.cells cur e)) rfl ⟨rfl, rfl, rfl⟩ hes ?_ ?_ (.ref d new.length) _ (.inr ⟨rfl, _, rfl, hge, hcm, ?_⟩), fun b h => by simp at h; subst h; exact R.ev.size⟩
      · simp [hcur]
      · intro i row hi j x hx
        have h1 := hes row (List.mem_of_getElem? hi)
        have hj : j < szOf P e := by rw [← h1]; exact (List.getElem?_eq_some_iff.1 hx).1
        have hil := (List.getElem?_eq_some_iff.1 hi).1
        have hlt : i * szOf P e + j < new.length * szOf P e := by
          have : (i + 1) * szOf P e ≤ new.length * szOf P e := Nat.mul_le_mul_right _ hil
          rw [Nat.add_mul] at this
          omega
        have hrel := hr i row hi j x hx
        refine ⟨F (i * szOf P e + j), ?_, hrel.oneCell, Rel1.of_relP hrel, fun _ => hrel⟩
        rw [hcur, Array.getElem?_append_left (by simpa using hlt)]
        simp [hlt]
      · simp only [hcur, Array.size_append, List.size_toArray, f1, size_zeroCells, hzs]
        rw [← Nat.add_mul]
        congr 1
        omega

theorem RB.appendRef (R : RB w0 I A0 n s a w β A) {t e : TypeId} (ht : elemT P t = some e) (hpos : 0 < szOf P e) (hz : (zeroCs P e).isSome) {new : List (List V)} {y : V} {u cx : Value} (hy : Rel ⟨w, A, s.h, β⟩ y u) (hrows : rowsOf s.h y = some new)
    (hes : ∀ r ∈ new, r.length = szOf P e) {o m : Nat} {ob : Ob} (ho : s.h o = some ob) (hx : Rel ⟨w, A, s.h, β⟩ (.ref o m) cx) (hm0 : m = ob.rows.length) (hty : ob.ty = e) (hoe : ob.es = szOf P e)
    (hbytes : (m + new.length) * bytesOf P e ≤ 140737488355328) (hm : m + new.length ≤ maxLen) (ty : TypeId) (d : Option Nat) (hd : ∀ k, d = some k → k < n) :
    ∃ r w', (Builtin.append_ #[t, t] ty #[cx, u]).run P w = .ok r w' ∧ RR w0 I A0 n ((s.setOb o { ob with rows := ob.rows ++ new }).put d (.ref o (ob.rows ++ new).length)) (a.put d r) w' := by
  have hu := elemT_some ht
  obtain ⟨ti, hti, hsz⟩ := szOf_eq (P := P) (t := e) rfl hpos
  obtain ⟨zz, hzz⟩ := Option.isSome_iff_exists.1 hz
  obtain ⟨ti', zv, hti', hzv, hzs, _⟩ := zeroCs_some hzz
  rw [hti] at hti'
  cases hti'
  have hby : bytesOf P e = ti.bytes := by simp [bytesOf, hti]
  have hsrc := Src.of_rowsOf R.obs hy hrows hes hpos
  have hok := R.obs.ok o ob ho
  have hx2 := (hx ob ho).2 hm0
  simp only at hok hx2
  by_cases hz0 : new.length = 0
  · have hnil : new = [] := List.eq_nil_of_length_eq_zero hz0
    subst hnil
    have hu0 : ∃ a' c', u = .slice a' 0 c' := by
      rcases hsrc.src with ⟨_, a', c', rfl⟩ | ⟨b, off, c, F, rfl, _⟩
      · exact ⟨_, _, rfl⟩
      · exact ⟨_, _, rfl⟩
    obtain ⟨a', c', rfl⟩ := hu0
    have hcx : ∃ ad cap, cx = .slice ad m cap ∧ m ≤ cap := by
      cases hb : β o with
      | none =>
        rw [hb] at hok hx2
        have h0 : ob.rows = [] := hok
        rw [h0] at hm0
        subst hm0
        exact ⟨none, 0, hx2, Nat.le_refl _⟩
      | some b => rw [hb] at hx2; obtain ⟨cap, cur, rfl, h1, _⟩ := hx2; exact ⟨_, _, rfl, h1⟩
    obtain ⟨ad, cap, rfl, hcap⟩ := hcx
    refine ⟨.slice ad m cap, w, ?_, β, A, ?_⟩
    · cases a' <;> cases ad <;> simp [Builtin.append_, run_underlying hu, sizeOf, typeInfo, hti, Builtin.lenOf, Builtin.firstCells, loadCells, loadCellsFrom, storeCells, hcap]
    · have e1 : (s.setOb o { ob with rows := ob.rows ++ [] }) = s := by
        have hob : ({ ob with rows := ob.rows ++ [] } : Ob) = ob := by simp
        rw [hob]
        simp only [St.setOb]
        have : setH s.h o ob = s.h := by
          funext p
          by_cases hp : p = o
          · subst hp; simp [setH, ho]
          · simp [setH, hp]
        rw [this]
      rw [e1]
      refine R.put d hd _ _ ?_
      simpa [← hm0] using hx
  rcases hsrc.src with ⟨hnil, _⟩ | ⟨b, off, c, F, rfl, hc, hr⟩
  · exact absurd (by rw [hnil]; rfl) hz0
  obtain ⟨f1, f2⟩ := flat_news w hc
  have hnewrel : ∀ (i : Nat) (row : List V), new[i]? = some row → ∀ (j : Nat) (x : V), row[j]? = some x → i * szOf P e + j < new.length * szOf P e ∧ RelP w A x (F (i * szOf P e + j)) := by
    intro i row hi j x hx
    have h1 := hes row (List.mem_of_getElem? hi)
    have hj : j < szOf P e := by rw [← h1]; exact (List.getElem?_eq_some_iff.1 hx).1
    have hil := (List.getElem?_eq_some_iff.1 hi).1
    have : (i + 1) * szOf P e ≤ new.length * szOf P e := Nat.mul_le_mul_right _ hil
    rw [Nat.add_mul] at this
    exact ⟨by omega, hr i row hi j x hx⟩
  have hlenne : (ob.rows ++ new).length ≠ ob.rows.length := by rw [List.length_append]; omega
  cases hb : β o with
  | none =>
    rw [hb] at hok hx2
    have h0 : ob.rows = [] := hok
    subst hx2
    have hm00 : m = 0 := by rw [h0] at hm0; exact hm0
    subst hm00
    have hrun := run_append_nil (P := P) w t ty e ti zv hu hti hzv ⟨b, off, none⟩ new.length c ((List.range (new.length * szOf P e)).map F) (by rw [f1, hsz]) f2 (by omega) (by simp only [maxLen] at hm; omega) (by rw [← hby]; rw [Nat.zero_add] at hbytes; omega)
    have hge := grownCap_ge w new.length 0 e
    have hcm := grownCap_le_maxLen w new.length 0 e (by omega)
    obtain ⟨cur, hcur⟩ : ∃ cur, cur = (List.map F (List.range (new.length * szOf P e))).toArray ++ Builtin.zeroCells zv.cells (grownCap w new.length 0 e - new.length) := ⟨_, rfl⟩
    rw [← hcur] at hrun
    refine ⟨_, _, hrun, _, _, R.repl o ob { ob with rows := ob.rows ++ new } ho rfl rfl (by simp) (w.drew.alloc (.cells cur e)) w.heap.size cur ?_ (.inr ⟨rfl, hlenne⟩) ?_ ?_ ⟨rfl, rfl, rfl⟩ ?_ ?_ ?_ d hd (.ref o (ob.rows ++ new).length) _ (.inr ⟨rfl, grownCap w new.length 0 e, ?_, ?_, hcm, ?_⟩)⟩
    · rw [hty]; exact heap_alloc_new w.drew _
    · intro k hk _; show (w.heap.push _)[k]? = _; rw [Array.getElem?_push, if_neg (by omega)]
    · show w.heap.size ≤ (w.heap.push _).size; simp
    · intro row hrow; rw [h0] at hrow; rw [hoe]; exact hes row (by simpa using hrow)
    · rw [h0, hoe]; simp [hcur]
    · intro i row hi j x hx
      rw [h0] at hi
      obtain ⟨hlt, hrel⟩ := hnewrel i row (by simpa using hi) j x hx
      rw [hoe]
      refine ⟨F (i * szOf P e + j), ?_, hrel.oneCell, Rel1.of_relP hrel, fun _ => hrel⟩
      rw [hcur, Array.getElem?_append_left (by simpa using hlt)]
      simp [hlt]
    · simp [h0]
    · simpa [h0] using hge
    · rw [hoe]
      simp only [hcur, Array.size_append, List.size_toArray, f1, size_zeroCells, hzs]
      rw [← Nat.add_mul]
      congr 1
      omega
  | some b0 =>
    rw [hb] at hok hx2
    obtain ⟨_, cur, hh, hrl, hlen, hcc⟩ := hok
    obtain ⟨cap, cur', rfl, hmc, hcm0, hh', hcs⟩ := hx2
    have hce : cur' = cur := by rw [hh] at hh'; simp at hh'; exact hh'.symm
    subst hce
    simp only at hh hcc
    by_cases hroom : m + new.length ≤ cap
    · have hfit : m * ti.size + ((List.range (new.length * szOf P e)).map F).length ≤ cur'.size := by
        rw [f1, hsz, ← Nat.add_mul, hcs, hoe]; exact Nat.mul_le_mul_right _ hroom
      have h1c : ∀ u ∈ (List.range (new.length * szOf P e)).map F, u.oneCell' = true := by
        intro u hu
        obtain ⟨k, hk, rfl⟩ := List.mem_map.1 hu
        have hk' : k < new.length * szOf P e := by simpa using hk
        have hlt : k / szOf P e < new.length := Nat.div_lt_of_lt_mul (by rw [Nat.mul_comm]; exact hk')
        obtain ⟨row, hrow⟩ : ∃ row, new[k / szOf P e]? = some row := ⟨_, List.getElem?_eq_getElem hlt⟩
        have h2 := hes row (List.mem_of_getElem? hrow)
        have hmm : k % szOf P e < row.length := by rw [h2]; exact Nat.mod_lt _ hpos
        obtain ⟨x, hx⟩ : ∃ x, row[k % szOf P e]? = some x := ⟨_, List.getElem?_eq_getElem hmm⟩
        have h3 := (hnewrel _ row hrow _ x hx).2
        have h4 := Nat.div_add_mod k (szOf P e)
        rw [Nat.mul_comm] at h4
        rw [h4] at h3
        exact h3.oneCell
      have hrun := run_append_room (P := P) w t ty e ti hu hti b0 m cap cur' (by rw [hh, hty]) ⟨b, off, none⟩ new.length c ((List.range (new.length * szOf P e)).map F) (by rw [f1, hsz]) f2 h1c hroom hfit
      obtain ⟨cur2, hcur2⟩ : ∃ cur2, cur2 = (cur'.toList.take (m * ti.size) ++ (List.range (new.length * szOf P e)).map F ++ cur'.toList.drop (m * ti.size + ((List.range (new.length * szOf P e)).map F).length)).toArray := ⟨_, rfl⟩
      rw [← hcur2] at hrun
      have hms : m * ti.size ≤ cur'.size := by omega
      have hcs2 : cur2.size = cur'.size := by
        rw [hcur2]
        simp only [List.size_toArray, List.length_append, List.length_take, List.length_drop, Array.length_toList]
        omega
      refine ⟨_, _, hrun, _, _, R.repl o ob { ob with rows := ob.rows ++ new } ho rfl rfl (by simp) (w.setRow b0 cur2) b0 cur2 (setRow_heap w b0 cur' cur2 ob.ty (0, 0) hh) (.inl ⟨hb, fun c hc => ?_⟩) ?_ ?_ ⟨rfl, rfl, rfl⟩ ?_ ?_ ?_ d hd (.ref o (ob.rows ++ new).length) _ (.inr ⟨rfl, cap, ?_, ?_, hcm0, ?_⟩)⟩
      · rw [hh] at hc; simp at hc; rw [← hc]; exact hcs2
      · intro k hk hne
        exact setRow_other w b0 k cur2 (fun e => hne (by rw [hb, e]))
      · simp [World.setRow]
      · intro row hrow
        rcases List.mem_append.1 hrow with h | h
        · exact hrl row h
        · rw [hoe]; exact hes row h
      · rw [hcs2, hcs, List.length_append, ← hm0]; exact Nat.mul_le_mul_right _ hroom
      · intro i row hi j x hx
        by_cases hil : i < ob.rows.length
        · rw [List.getElem?_append_left hil] at hi
          obtain ⟨v, c1, c2, c3, c4⟩ := hcc i row hi j x hx
          refine ⟨v, ?_, c2, c3, c4⟩
          have hj : j < ob.es := by rw [← hrl row (List.mem_of_getElem? hi)]; exact (List.getElem?_eq_some_iff.1 hx).1
          have hlt : i * ob.es + j < m * ti.size := by
            have : (i + 1) * ob.es ≤ m * ob.es := Nat.mul_le_mul_right _ (by omega)
            rw [Nat.add_mul] at this
            rw [hsz, ← hoe]
            omega
          rw [hcur2]
          simp only [List.getElem?_toArray, List.append_assoc]
          rw [List.getElem?_append_left (by simp; omega), List.getElem?_take, if_pos hlt]
          simpa using c1
        · rw [List.getElem?_append_right (by omega)] at hi
          obtain ⟨hlt, hrel⟩ := hnewrel _ row hi j x hx
          refine ⟨F ((i - ob.rows.length) * szOf P e + j), ?_, hrel.oneCell, Rel1.of_relP hrel, fun _ => hrel⟩
          have hsplit : i * ob.es + j = m * ti.size + ((i - ob.rows.length) * szOf P e + j) := by
            rw [hsz, ← hoe, ← Nat.add_assoc, ← Nat.add_mul]
            congr 2
            omega
          rw [hcur2, hsplit]
          simp only [List.getElem?_toArray, List.append_assoc]
          rw [List.getElem?_append_right (by simp; omega)]
          simp only [List.length_take, Array.length_toList, show min (m * ti.size) cur'.size = m * ti.size from by omega, Nat.add_sub_cancel_left]
          rw [List.getElem?_append_left (by rw [f1]; exact hlt)]
          simp [hlt]
      · simp [hm0]
      · simpa [hm0] using hroom
      · rw [hcs2, hcs]
    · obtain ⟨olds, holds⟩ : ∃ olds, olds = cur'.toList.take (m * ob.es) := ⟨_, rfl⟩
      have hms : m * ob.es ≤ cur'.size := by rw [hcs]; exact Nat.mul_le_mul_right _ hmc
      have hol : olds.length = m * ti.size := by rw [holds, hsz, ← hoe]; simp; omega
      have hoc : ∀ (j : Nat) (v : Value), olds[j]? = some v → w.cell? ((⟨b0, 0, none⟩ : Addr).add j) = some v := by
        intro j v hv
        rw [Addr.add_mid, Nat.zero_add, cell_of_row w b0 j cur' ob.ty (0, 0) hh]
        rw [holds, List.getElem?_take] at hv
        split at hv
        · simpa using hv
        · cases hv
      have hrun := run_append_grow (P := P) w t ty e ti zv hu hti hzv ⟨b0, 0, none⟩ m cap olds hol hoc ⟨b, off, none⟩ new.length c ((List.range (new.length * szOf P e)).map F) (by rw [f1, hsz]) f2 (by omega) (by simp only [maxLen] at hm; omega) (growslice_fits (by omega) (by rw [← hby]; exact hbytes))
      have hge := grownCap_ge w (m + new.length) cap e
      have hcm := grownCap_le_maxLen w (m + new.length) cap e hm
      obtain ⟨cur2, hcur2⟩ : ∃ cur2, cur2 = olds.toArray ++ (List.map F (List.range (new.length * szOf P e))).toArray ++ Builtin.zeroCells zv.cells (grownCap w (m + new.length) cap e - (m + new.length)) := ⟨_, rfl⟩
      rw [← hcur2] at hrun
      have hsz2 : cur2.size = grownCap w (m + new.length) cap e * szOf P e := by
        rw [hcur2]
        simp only [Array.size_append, List.size_toArray, f1, size_zeroCells, hzs, hol, hsz]
        rw [← Nat.add_mul, ← Nat.add_mul]
        congr 1
        omega
      refine ⟨_, _, hrun, _, _, R.repl o ob { ob with rows := ob.rows ++ new } ho rfl rfl (by simp) (w.drew.alloc (.cells cur2 e)) w.heap.size cur2 ?_ (.inr ⟨rfl, hlenne⟩) ?_ ?_ ⟨rfl, rfl, rfl⟩ ?_ ?_ ?_ d hd (.ref o (ob.rows ++ new).length) _ (.inr ⟨rfl, grownCap w (m + new.length) cap e, ?_, ?_, hcm, ?_⟩)⟩
      · rw [hty]; exact heap_alloc_new w.drew _
      · intro k hk _; show (w.heap.push _)[k]? = _; rw [Array.getElem?_push, if_neg (by omega)]
      · show w.heap.size ≤ (w.heap.push _).size; simp
      · intro row hrow
        rcases List.mem_append.1 hrow with h | h
        · exact hrl row h
        · rw [hoe]; exact hes row h
      · rw [hsz2, hoe, List.length_append, ← hm0]; exact Nat.mul_le_mul_right _ hge
      · intro i row hi j x hx
        by_cases hil : i < ob.rows.length
        · rw [List.getElem?_append_left hil] at hi
          obtain ⟨v, c1, c2, c3, c4⟩ := hcc i row hi j x hx
          refine ⟨v, ?_, c2, c3, c4⟩
          have hj : j < ob.es := by rw [← hrl row (List.mem_of_getElem? hi)]; exact (List.getElem?_eq_some_iff.1 hx).1
          have hlt : i * ob.es + j < m * ob.es := by
            have : (i + 1) * ob.es ≤ m * ob.es := Nat.mul_le_mul_right _ (by omega)
            rw [Nat.add_mul] at this
            omega
          rw [hcur2, Array.append_assoc, Array.getElem?_append_left (by rw [List.size_toArray, hol, hsz, ← hoe]; exact hlt), holds, List.getElem?_toArray, List.getElem?_take, if_pos hlt]
          simpa using c1
        · rw [List.getElem?_append_right (by omega)] at hi
          obtain ⟨hlt, hrel⟩ := hnewrel _ row hi j x hx
          refine ⟨F ((i - ob.rows.length) * szOf P e + j), ?_, hrel.oneCell, Rel1.of_relP hrel, fun _ => hrel⟩
          have hsplit : i * ob.es + j = m * ti.size + ((i - ob.rows.length) * szOf P e + j) := by
            rw [hsz, ← hoe, ← Nat.add_assoc, ← Nat.add_mul]
            congr 2
            omega
          rw [hcur2, hsplit, Array.append_assoc, Array.getElem?_append_right (by rw [List.size_toArray, hol]; omega)]
          simp only [List.size_toArray, hol, Nat.add_sub_cancel_left]
          rw [Array.getElem?_append_left (by rw [List.size_toArray, f1]; exact hlt)]
          simp [hlt]
      · simp [hm0]
      · simpa [hm0] using hge
      · rw [hsz2, hoe]


theorem RB.one (R : RB w0 I A0 n s a w β A) {t : TypeId} {imp : Bool} {cs : List V} {v : Value} (hc : Cells ⟨w, A, s.h, β⟩ imp cs v.cells.toList) (hlen : cs.length = szOf P t) (d : Nat) (hd : d < n) :
    RRf w0 I A0 n (s.new d ⟨t, szOf P t, imp, [cs]⟩ (.ptr d 1 0 0)) (a.put (some d) (.pointer (some ⟨w.heap.size, 0, none⟩))) (w.alloc (.cells v.cells t)) d := by
  have hvs : v.cells.size = cs.length := by simpa using hc.1
  refine ⟨_, _, R.new d hd ⟨t, szOf P t, imp, [cs]⟩ v.cells (w.alloc (.cells v.cells t)) rfl ⟨rfl, rfl, rfl⟩ ?_ ?_ ?_ _ _ (.inl ⟨rfl, rfl⟩), fun b h => by simp at h; subst h; exact R.ev.size⟩
  · intro row hrow
    simp at hrow
    subst hrow
    exact hlen
  · simp; omega
  · intro i row hi j x hx
    cases i with
    | zero =>
      simp at hi
      subst hi
      obtain ⟨u, h1, h2, h3, h4⟩ := hc.2 j x hx
      exact ⟨u, by simpa using h1, h2, h3, h4⟩
    | succ i => simp at hi

theorem cutRows_len {α : Type} (es : Nat) : ∀ (m : Nat) (z : List α), (cutRows es m z).length = m
  | 0, z => rfl
  | m + 1, z => by simp [cutRows, cutRows_len es m]
theorem cutRows_es {α : Type} (es : Nat) : ∀ (m : Nat) (z : List α), z.length = m * es → ∀ row ∈ cutRows es m z, row.length = es
  | 0, z, h, row, hr => by simp [cutRows] at hr
  | m + 1, z, h, row, hr => by
    simp only [cutRows, List.mem_cons] at hr
    rw [Nat.add_mul, Nat.one_mul] at h
    rcases hr with rfl | hr
    · simp; omega
    · exact cutRows_es es m _ (by simp; omega) row hr
theorem cutRows_get {α : Type} (es : Nat) : ∀ (m : Nat) (z : List α) (i : Nat) (row : List α), (cutRows es m z)[i]? = some row → ∀ (j : Nat) (x : α), row[j]? = some x → z[i * es + j]? = some x
  | 0, z, i, row, h, j, x, hx => by simp [cutRows] at h
  | m + 1, z, 0, row, h, j, x, hx => by
    simp [cutRows] at h
    subst h
    rw [List.getElem?_take] at hx
    split at hx
    · simpa using hx
    · cases hx
  | m + 1, z, i + 1, row, h, j, x, hx => by
    simp only [cutRows, List.getElem?_cons_succ] at h
    have := cutRows_get es m _ i row h j x hx
    rw [List.getElem?_drop] at this
    rw [Nat.add_mul, Nat.one_mul, show i * es + es + j = es + (i * es + j) by omega]
    exact this

theorem RB.arr (R : RB w0 I A0 n s a w β A) {t : TypeId} {m es : Nat} {cs : List V} {v : Value} (hc : Cells ⟨w, A, s.h, β⟩ false cs v.cells.toList) (hlen : cs.length = m * es) (d : Nat) (hd : d < n) :
    RRf w0 I A0 n (s.new d ⟨t, es, false, cutRows es m cs⟩ (.ptr d (cutRows es m cs).length 0 0)) (a.put (some d) (.pointer (some ⟨w.heap.size, 0, none⟩))) (w.alloc (.cells v.cells t)) d := by
  have hvs : v.cells.size = cs.length := by simpa using hc.1
  refine ⟨_, _, R.new d hd ⟨t, es, false, cutRows es m cs⟩ v.cells (w.alloc (.cells v.cells t)) rfl ⟨rfl, rfl, rfl⟩ (cutRows_es es m cs hlen) ?_ ?_ _ _ (.inl ⟨rfl, rfl⟩), fun b h => by simp at h; subst h; exact R.ev.size⟩
  · simp only [cutRows_len]; omega
  · intro i row hi j x hx
    obtain ⟨u, h1, h2, h3, h4⟩ := hc.2 _ x (cutRows_get es m cs i row hi j x hx)
    exact ⟨u, by simpa using h1, h2, h3, h4⟩

theorem fillC_rows {es : Nat} : ∀ (parts : List (Nat × V)) (k : Nat) (cs : List V), parts.map (·.1) = List.range' k parts.length → (∀ q ∈ parts, q.2.cells.length = es) → (k + parts.length) * es ≤ cs.length →
    fillC (fun i => some (i * es, es)) cs parts = some (cs.take (k * es) ++ (parts.map (·.2.cells)).flatten ++ cs.drop ((k + parts.length) * es))
  | [], k, cs, _, _, hl => by simp [fillC]
  | (i, x) :: parts, k, cs, hk, hes, hl => by
    simp only [List.map_cons, List.length_cons, List.range'_succ, List.cons.injEq] at hk
    obtain ⟨rfl, hk⟩ := hk
    have hx := hes (i, x) (by simp)
    simp only at hx
    simp only [List.length_cons] at hl
    have h1 : (i + 1 + parts.length) * es ≤ cs.length := by rw [show i + 1 + parts.length = i + (parts.length + 1) from by omega]; exact hl
    have hie : i * es + es ≤ cs.length := by
      have : (i + 1) * es ≤ (i + 1 + parts.length) * es := Nat.mul_le_mul_right _ (by omega)
      rw [Nat.add_mul] at this
      omega
    simp only [fillC, hx]
    rw [if_pos ⟨trivial, hie⟩]
    have hpl : (putAt cs (i * es) x.cells).length = cs.length := by
      simp only [putAt, List.length_append, List.length_take, List.length_drop, hx]; omega
    rw [fillC_rows parts (i + 1) _ hk (fun q hq => hes q (by simp [hq])) (by rw [hpl]; exact h1)]
    congr 1
    have e1 : (putAt cs (i * es) x.cells).take ((i + 1) * es) = cs.take (i * es) ++ x.cells := by
      simp only [putAt]
      rw [List.take_append_of_le_length (by simp [hx, Nat.add_mul]; omega), List.take_of_length_le (by simp [hx, Nat.add_mul]; omega)]
    have e2 : (putAt cs (i * es) x.cells).drop ((i + 1 + parts.length) * es) = cs.drop ((i + (parts.length + 1)) * es) := by
      simp only [putAt, hx]
      have hle : i * es + es ≤ (i + 1 + parts.length) * es := by
        have : (i + 1) * es ≤ (i + 1 + parts.length) * es := Nat.mul_le_mul_right _ (by omega)
        rw [Nat.add_mul] at this
        omega
      have hl2 : (cs.take (i * es) ++ x.cells).length = i * es + es := by simp [hx]; omega
      rw [List.drop_append, List.drop_of_length_le (by rw [hl2]; exact hle), hl2, List.nil_append, List.drop_drop]
      congr 1
      rw [show i + (parts.length + 1) = i + 1 + parts.length from by omega]
      omega
    rw [e1, e2]
    simp

theorem flatten_get {es : Nat} : ∀ (rows : List (List V)), (∀ r ∈ rows, r.length = es) → ∀ (i : Nat) (row : List V), rows[i]? = some row → ∀ (j : Nat) (x : V), row[j]? = some x → rows.flatten[i * es + j]? = some x
  | [], _, i, row, hi, _, _, _ => by simp at hi
  | r :: rows, hes, i, row, hi, j, x, hx => by
    have hr := hes r (by simp)
    cases i with
    | zero =>
      simp at hi
      subst hi
      have hj := (List.getElem?_eq_some_iff.1 hx).1
      simp only [List.flatten_cons, Nat.zero_mul, Nat.zero_add]
      rw [List.getElem?_append_left hj]
      exact hx
    | succ i =>
      simp only [List.flatten_cons]
      rw [List.getElem?_append_right (by rw [hr, Nat.add_mul]; omega), hr, show (i + 1) * es + j - es = i * es + j from by rw [Nat.add_mul]; omega]
      exact flatten_get rows (fun q hq => hes q (by simp [hq])) i row (by simpa using hi) j x hx

theorem flatten_len {es : Nat} : ∀ (rows : List (List V)), (∀ r ∈ rows, r.length = es) → rows.flatten.length = rows.length * es
  | [], _ => by simp
  | r :: rows, h => by
    simp only [List.flatten_cons, List.length_append, List.length_cons, h r (by simp), flatten_len rows (fun q hq => h q (by simp [hq]))]
    rw [Nat.add_mul]
    omega

theorem run_buildSlice0 (w : World) (t e : TypeId) (ie : TypeInfo) (hu : P.underlying t = some (.slice e)) (hie : P.info? e = some ie) :
    (Instr.buildSlice t 0 #[]).run P w = .ok (.slice (some ⟨w.heap.size, 0, none⟩) 0 0) (w.alloc (.cells #[] e)) := by
  have h0 : ∀ f : Nat → Value, Array.map f (Array.range 0) = #[] := fun f => Array.eq_empty_of_size_eq_zero (by simp)
  simp [Instr.buildSlice, run_underlying hu, sizeOf, typeInfo, hie, Instr.fill, newRow, h0]

theorem RB.buildSlice (R : RB w0 I A0 n s a w β A) {t e : TypeId} (he : elemT P t = some e) {len : Nat} {parts : List (Nat × V)} {cparts : Array (Nat × Value)}
    (hidx : parts.map (·.1) = List.range len) (hbig : len * szOf P e ≤ 2 ^ 24) (hpos : 0 < szOf P e) (hz : (zeroCs P e).isSome)
    (hl : cparts.size = parts.length) (hp : ∀ (i : Nat) (q : Nat × V), parts[i]? = some q → ∃ u, cparts[i]? = some (q.1, u) ∧ Rel ⟨w, A, s.h, β⟩ q.2 u)
    (hst : ∀ q ∈ parts, q.2.stor s.h ∧ q.2.cells.length = szOf P e) (d : Nat) (hd : d < n) :
    ∃ r w', (Instr.buildSlice t len cparts).run P w = .ok r w' ∧ RRf w0 I A0 n (s.new d ⟨e, szOf P e, !(parts.all (·.2.pure)), parts.map (·.2.cells)⟩ (.ref d (parts.map (·.2.cells)).length)) (a.put (some d) r) w' d := by
  have hu := elemT_some he
  obtain ⟨zz, hzz⟩ := Option.isSome_iff_exists.1 hz
  obtain ⟨ti, zv, hti, hzv, hzs, hzc⟩ := zeroCs_some hzz
  have hsz : ti.size = szOf P e := by simp [szOf, hti]
  have hlen : parts.length = len := by have := congrArg List.length hidx; simpa using this
  have hzc' := hzc ⟨w, A, s.h, β⟩
  have hzl : zz.length = szOf P e := by have := hzc'.1; simp at this; omega
  generalize hb : (!(parts.all (·.2.pure))) = b
  have hparts : ∀ (i : Nat) (q : Nat × V), parts[i]? = some q → ∃ u, cparts.toList[i]? = some (q.1, u) ∧ Cells ⟨w, A, s.h, β⟩ b q.2.cells u.cells.toList := by
    intro i q hq
    obtain ⟨u, h1, h2⟩ := hp i q hq
    refine ⟨u, by simpa using h1, (Cells.of_rel h2 (hst q (List.mem_of_getElem? hq)).1).weaken b fun hbf => ?_⟩
    rw [hbf] at hb
    simp only [Bool.not_eq_false', List.all_eq_true] at hb
    simp [hb q (List.mem_of_getElem? hq)]
  obtain ⟨cs0, hcs0⟩ : ∃ cs0, cs0 = (List.range (len * szOf P e)).map fun j => zz.getD (j % szOf P e) .dead := ⟨_, rfl⟩
  have hcl : cs0.length = len * szOf P e := by simp [hcs0]
  have hfill := fillC_rows (es := szOf P e) parts 0 cs0 (by rw [hidx, hlen, List.range_eq_range']) (fun q hq => (hst q hq).2) (by rw [hcl, hlen, Nat.zero_add]; exact Nat.le_refl _)
  have hfl : (cs0.take (0 * szOf P e) ++ (parts.map (·.2.cells)).flatten ++ cs0.drop ((0 + parts.length) * szOf P e)) = (parts.map (·.2.cells)).flatten := by
    rw [Nat.zero_mul, List.take_zero, List.nil_append, List.drop_of_length_le (by rw [hcl, hlen, Nat.zero_add]; exact Nat.le_refl _), List.append_nil]
  rw [hfl] at hfill
  have hzero : Cells ⟨w, A, s.h, β⟩ b cs0 ((Array.range (len * ti.size)).map (zv.cells[· % zv.cells.size]!)).toList := by
    refine ⟨by simp [hcl, hsz], fun i x hx => ?_⟩
    have hi : i < len * szOf P e := by rw [← hcl]; exact (List.getElem?_eq_some_iff.1 hx).1
    have hm : i % szOf P e < zz.length := by rw [hzl]; exact Nat.mod_lt _ hpos
    rw [hcs0] at hx
    simp [hi, hm] at hx
    obtain ⟨u, u1, u2, u3, u4⟩ := hzc'.2 (i % szOf P e) x (by rw [List.getElem?_eq_getElem hm, hx])
    refine ⟨u, ?_, u2, u3, fun _ => u4 rfl⟩
    have hm2 : i % szOf P e < zv.cells.size := by rw [hzs]; exact Nat.mod_lt _ hpos
    simp [hsz, hi, hzs]
    rw [getElem!_pos zv.cells _ hm2]
    have := (List.getElem?_eq_some_iff.1 u1).2
    simpa using this
  obtain ⟨vs', g1, g2⟩ := fill_sound (E := ⟨w, A, s.h, β⟩) (imp := b) (place' := fun i => some (i * ti.size, ti.size)) (fun i q hq => by rw [hsz]; exact hq) parts cparts.toList cs0 _ _ (by simpa using hl) hparts hzero hfill
  have hrl : ∀ r ∈ parts.map (·.2.cells), r.length = szOf P e := by
    intro r hr
    obtain ⟨q, hq, rfl⟩ := List.mem_map.1 hr
    exact (hst q hq).2
  have hvl : vs'.size = len * szOf P e := by
    have := g2.1
    rw [flatten_len _ hrl] at this
    simp at this
    rw [this, hlen]
  have hrun : (Instr.buildSlice t len cparts).run P w = .ok (.slice (some ⟨w.heap.size, 0, none⟩) len len) (w.alloc (.cells vs' e)) := by
    rcases Nat.eq_zero_or_pos len with h0 | h0
    · subst h0
      have hv0 : vs' = #[] := Array.eq_empty_of_size_eq_zero (by rw [hvl, Nat.zero_mul])
      have hp0 : cparts = #[] := Array.eq_empty_of_size_eq_zero (by rw [hl, hlen])
      subst hv0 hp0
      exact run_buildSlice0 w t e ti hu hti
    · exact run_buildSlice (P := P) w t e len cparts vs' ti zv hu hti hzv (by rw [hsz]; omega) (by rw [hsz]; exact Nat.ne_of_gt (Nat.mul_pos h0 hpos)) g1
  refine ⟨_, _, hrun, _, _, R.new d hd ⟨e, szOf P e, b, parts.map (·.2.cells)⟩ vs' (w.alloc (.cells vs' e)) rfl ⟨rfl, rfl, rfl⟩ hrl ?_ ?_ _ _ (.inr ⟨rfl, len, ?_, ?_, ?_, hvl⟩), fun b h => by simp at h; subst h; exact R.ev.size⟩
  · simp [hvl, hlen]
  · intro i row hi j x hx
    obtain ⟨u, h1, h2, h3, h4⟩ := g2.2 _ x (flatten_get _ hrl i row hi j x hx)
    exact ⟨u, by simpa using h1, h2, h3, h4⟩
  · simp [hlen]
  · simp [hlen]
  · simp only [maxLen]
    have : len ≤ len * szOf P e := Nat.le_mul_of_pos_right _ hpos
    omega

theorem RB.makeSlice (R : RB w0 I A0 n s a w β A) {t e : TypeId} (he : elemT P t = some e) {zz : List V} (hzz : zeroCs P e = some zz) (hpos : 0 < szOf P e) (kl kc : IntKind) (l c : Int)
    (h0 : 0 ≤ l) (hlc : l ≤ c) (hby : (bytesOf P e : Int) * c ≤ 140737488355328) (hc : c ≤ 9223372036854775807) (d : Nat) (hd : d < n) :
    ∃ r w', (Instr.makeSlice t (.int kl l) (.int kc c)).run P w = .ok r w' ∧ RRf w0 I A0 n (s.new d ⟨e, szOf P e, false, List.replicate l.toNat zz⟩ (.ref d (List.replicate l.toNat zz).length)) (a.put (some d) r) w' d := by
  have hu := elemT_some he
  obtain ⟨ti, zv, hti, hzv, hzs, hzc⟩ := zeroCs_some hzz
  have hsz : ti.size = szOf P e := by simp [szOf, hti]
  have hbb : bytesOf P e = ti.bytes := by simp [bytesOf, hti]
  have hzc' := hzc ⟨w, A, s.h, β⟩
  have hzl : zz.length = szOf P e := by have := hzc'.1; simp at this; omega
  rw [hbb] at hby
  have hrun := run_make (P := P) w t e ti zv hu hti hzv kl kc l c h0 hlc (by omega) hc
  refine ⟨_, _, hrun, _, _, R.new d hd ⟨e, szOf P e, false, List.replicate l.toNat zz⟩ (madeCells zv.cells (c.toNat * ti.size)) (w.alloc (.cells (madeCells zv.cells (c.toNat * ti.size)) e)) rfl ⟨rfl, rfl, rfl⟩ ?_ ?_ ?_ _ _ (.inr ⟨rfl, c.toNat, ?_, ?_, ?_, ?_⟩), fun b h => by simp at h; subst h; exact R.ev.size⟩
  · intro row hrow
    rw [(List.mem_replicate.1 hrow).2]; exact hzl
  · simp only [List.length_replicate, size_madeCells, hsz]
    exact Nat.mul_le_mul_right _ (by omega)
  · intro i row hi j x hx
    have hil : i < l.toNat := by have := (List.getElem?_eq_some_iff.1 hi).1; simpa using this
    have hrow : row = zz := by
      have := (List.mem_replicate.1 (List.mem_of_getElem? hi)).2; exact this
    subst hrow
    have hj : j < szOf P e := by rw [← hzl]; exact (List.getElem?_eq_some_iff.1 hx).1
    obtain ⟨u, u1, u2, u3, u4⟩ := hzc'.2 j x hx
    refine ⟨u, ?_, u2, u3, fun _ => u4 rfl⟩
    have hin : i * szOf P e + j < c.toNat * szOf P e := by
      have h1 : (i + 1) * szOf P e ≤ c.toNat * szOf P e := Nat.mul_le_mul_right _ (by omega)
      rw [Nat.add_mul] at h1; omega
    have hm : (i * szOf P e + j) % szOf P e = j := by rw [Nat.mul_comm, Nat.mul_add_mod]; exact Nat.mod_eq_of_lt hj
    have hm2 : j < zv.cells.size := by rw [hzs]; exact hj
    simp only [madeCells, hsz, hzs]
    simp [hin, hm]
    rw [getElem!_pos zv.cells _ hm2]
    have := (List.getElem?_eq_some_iff.1 u1).2
    simpa using this
  · simp
  · simp; omega
  · simp only [maxLen]; omega
  · simp [size_madeCells, hsz]

theorem aop_new (R : RB w0 I A0 n s a w β A) (o : Oper) {p : Prop} {ob : Ob} {isRef : Bool} (h : aop P o s.ev s.h = .new p ob isRef) (hp : p) (d : Nat) (hdst : o.dst = some d) (hd : d < n) :
    ∃ u w', (execOp a.eval o).run P w = .ok (.value u) w' ∧ RRf w0 I A0 n (s.new d ob (if isRef then .ref d ob.rows.length else .ptr d ob.rows.length 0 0)) (a.put o.dst u) w' d := by
  have hev := rel_ev R.slots
  rw [hdst]
  obtain ⟨dst, op, ty, pos, after, guard⟩ := o
  unfold aop at h
  simp only at h
  split at h <;> try (cases h; done)
  · -- pick
    split at h <;> cases h
  · -- alloc
    rename_i t
    unfold aalloc at h
    split at h <;> try (cases h; done)
    rename_i z hz
    split at h
    · split at h <;> try (cases h; done)
      rename_i hcond
      simp only [AR.new.injEq] at h
      obtain ⟨rfl, rfl, rfl⟩ := h
      obtain ⟨ti, zv, hti, hzv, hzs, hzc⟩ := zeroCs_some hz
      refine ⟨_, _, ?_, R.arr (v := zv) (hzc ⟨w, A, s.h, β⟩) hcond.2.2 d hd⟩
      simp [execOp, Instr.alloc, zeroValue, typeInfo, hti, hzv, newVar, newRow]
    simp only [AR.new.injEq] at h
    obtain ⟨rfl, rfl, rfl⟩ := h
    obtain ⟨ti, zv, hti, hzv, hzs, hzc⟩ := zeroCs_some hz
    have hzc' := hzc ⟨w, A, s.h, β⟩
    refine ⟨_, _, ?_, R.one (v := zv) hzc' (by have := hzc'.1; simp at this; omega) d hd⟩
    simp [execOp, Instr.alloc, zeroValue, typeInfo, hti, hzv, newVar, newRow]
  · -- box
    rename_i t x
    simp only [AR.new.injEq] at h
    obtain ⟨rfl, rfl, rfl⟩ := h
    have hc := Cells.of_rel (hev x) hp.1
    refine ⟨_, _, ?_, R.one (v := a.eval x) hc hp.2 d hd⟩
    simp [execOp, Instr.box, newVar, newRow]
  · -- build
    unfold abuild at h
    split at h <;> try (cases h; done)
    split at h <;> try (cases h; done)
    split at h <;> cases h
  · -- buildSlice
    rename_i t len parts
    unfold abuildSlice at h
    split at h <;> try (cases h; done)
    rename_i e he
    split at h <;> try (cases h; done)
    rename_i hcond
    simp only [AR.new.injEq] at h
    obtain ⟨rfl, rfl, rfl⟩ := h
    obtain ⟨c1, c3, c4, c5⟩ := hcond
    obtain ⟨r, w', hr, hR⟩ := R.buildSlice (P := P) (cparts := parts.map fun q => (q.1, a.eval q.2)) he c1 c3 c4 c5 (by simp) (fun i q hq => by
      rw [List.getElem?_map] at hq
      cases hi : parts.toList[i]? with
      | none => simp [hi] at hq
      | some r =>
        simp [hi] at hq
        subst hq
        have hi' : parts[i]? = some r := by simpa using hi
        exact ⟨a.eval r.2, by simp [hi'], hev r.2⟩) hp d hd
    exact ⟨r, w', run_v hr, hR⟩
  · -- load
    split at h <;> try (cases h; done)
    unfold aload at h
    split at h <;> try (cases h; done)
    · split at h <;> try (cases h; done)
      split at h <;> try (cases h; done)
      unfold loadR at h
      split at h <;> try (cases h; done)
      split at h <;> try (cases h; done)
      split at h <;> try (cases h; done)
      split at h <;> cases h
    · unfold loadR at h
      split at h <;> try (cases h; done)
      split at h <;> try (cases h; done)
      split at h <;> try (cases h; done)
      split at h <;> cases h
  · -- store
    split at h <;> try (cases h; done)
    unfold astore at h
    split at h <;> try (cases h; done)
    split at h <;> try (cases h; done)
    split at h <;> cases h
  · split at h <;> cases h
  · split at h <;> cases h
  · split at h <;> cases h
  · split at h <;> try (cases h; done)
    split at h <;> cases h
  · -- slice
    unfold aslice at h
    split at h <;> try (cases h; done)
    split at h <;> try (cases h; done)
    split at h <;> try (cases h; done)
    all_goals (split at h <;> cases h)
  · unfold afieldAddr at h
    split at h <;> try (cases h; done)
    · split at h <;> try (cases h; done)
      split at h <;> cases h
    · split at h <;> cases h
  · unfold afield at h
    split at h <;> try (cases h; done)
    split at h <;> try (cases h; done)
    split at h <;> try (cases h; done)
    split at h <;> try (cases h; done)
    split at h <;> cases h
  · split at h
    · unfold aindexRef at h
      split at h <;> try (cases h; done)
      split at h <;> try (cases h; done)
      split at h <;> try (cases h; done)
      split at h <;> cases h
    · unfold aindexArr at h
      split at h <;> try (cases h; done)
      split at h <;> try (cases h; done)
      split at h <;> try (cases h; done)
      split at h <;> cases h
    · unfold aindexAddr at h
      split at h <;> try (cases h; done)
      split at h <;> try (cases h; done)
      split at h <;> try (cases h; done)
      all_goals (split at h <;> cases h)
  · split at h <;> try (cases h; done)
    split at h <;> cases h
  · split at h <;> cases h
  · split at h <;> cases h
  · -- call
    rename_i c
    obtain ⟨callee, args, argTypes⟩ := c
    unfold acall at h
    simp only at h
    split at h <;> try (cases h; done)
    · split at h <;> try (cases h; done)
      split at h <;> cases h
    · split at h <;> try (cases h; done)
      split at h <;> try (cases h; done)
      split at h <;> cases h
    · split at h <;> try (cases h; done)
      rename_i x y t t' hargs hts
      split at h <;> try (cases h; done)
      rename_i htt
      subst htt
      unfold aappend at h
      split at h <;> try (cases h; done)
      rename_i e new he hrows
      split at h <;> try (cases h; done)
      rename_i hz
      split at h <;> try (cases h; done)
      · rename_i hxe
        simp only [AR.new.injEq] at h
        obtain ⟨rfl, rfl, rfl⟩ := h
        have hx := hev x
        rw [hxe] at hx
        have hxv : a.eval x = .slice none 0 0 := by generalize a.eval x = u at hx; cases hx; rfl
        have hm : args.map a.eval = #[.slice none 0 0, a.eval y] := by
          apply Array.ext'; simp [hargs, hxv]
        have hmt : argTypes = #[t, t] := by apply Array.ext'; simpa using hts
        simp only [not_or] at hz
        obtain ⟨r, w', hr, hR⟩ := R.appendNil (P := P) he (by omega) (Option.isSome_iff_ne_none.2 (by simpa using hz.2)) (hev y) hrows hp.1 hp.2.1 hp.2.2 ty d hd
        refine ⟨r, w', ?_, hR⟩
        simp only [execOp, resolve, invoke, builtin, hm, hmt, Sem.run_bind, Sem.run_pure, Result.andThen_ok, hr]
      · split at h <;> cases h
    · split at h <;> cases h
    · split at h <;> cases h
  · -- makeSlice
    rename_i t l c
    unfold amake at h
    split at h <;> try (cases h; done)
    rename_i e kl nl kc nc he hl hc
    split at h <;> try (cases h; done)
    rename_i zz hzz
    split at h <;> try (cases h; done)
    rename_i hpos
    simp only [AR.new.injEq] at h
    obtain ⟨rfl, rfl, rfl⟩ := h
    obtain ⟨c1, c2, c3, c4⟩ := hp
    have h1 := hev l
    have h2 := hev c
    rw [hl] at h1
    rw [hc] at h2
    have e1 : a.eval l = .int kl nl := by generalize a.eval l = u at h1; cases h1; rfl
    have e2 : a.eval c = .int kc nc := by generalize a.eval c = u at h2; cases h2; rfl
    obtain ⟨r, w', hr, hR⟩ := R.makeSlice (P := P) he hzz hpos kl kc nl nc c1 c2 c3 c4 d hd
    refine ⟨r, w', ?_, hR⟩
    simp only [execOp, e1, e2]
    exact run_v hr

end
end Go.AL
