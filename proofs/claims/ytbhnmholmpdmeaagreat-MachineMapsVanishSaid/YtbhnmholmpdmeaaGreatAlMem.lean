/-
  THE ABSTRACT LAYER, SIXTH PART: the operations that make memory or write it. By an AI agent.
-/
import Derived.Test.YtbhnmholmpdmeaaGreatAlStep
namespace Go.AL
set_option linter.unusedVariables false
set_option linter.unusedSimpArgs false
set_option linter.unusedSectionVars false

structure Src (E : Env) (es : Nat) (rows : List (List V)) (u : Value) (m : Nat) : Prop where
  len : m = rows.length
  src : (rows = [] ∧ ∃ (a : Option Addr) (c : Nat), u = .slice a 0 c) ∨ ∃ (b off c : Nat) (F : Nat → Value), u = .slice (some ⟨b, off, none⟩) rows.length c ∧
    (∀ k, k < rows.length * es → E.w.cell? ⟨b, off + k, none⟩ = some (F k)) ∧
    (∀ (i : Nat) (row : List V), rows[i]? = some row → ∀ (j : Nat) (x : V), row[j]? = some x → RelP E.w E.A x (F (i * es + j)))

section
variable {P : Program} {w0 : World} {I : Imp} {A0 : Nat → Prop} {n : Nat} {s : St} {a : Act} {w : World} {β : Nat → Option Nat} {A : Nat → Prop}

theorem RB.one (R : RB w0 I A0 n s a w β A) {t : TypeId} {imp : Bool} {cs : List V} {v : Value} (hc : Cells ⟨w, A, s.h, β⟩ imp cs v.cells.toList) (hlen : cs.length = szOf P t) (d : Nat) (hd : d < n) :
    RRf w0 I A0 n (s.new d ⟨t, szOf P t, imp, [cs]⟩ (.ptr d 1 0 0)) (a.put (some d) (.pointer (some ⟨w.heap.size, 0, none⟩))) (w.alloc (.cells v.cells t)) d := by
  have hvs : v.cells.size = cs.length := by simpa using hc.1
  refine ⟨_, _, R.new d hd ⟨t, szOf P t, imp, [cs]⟩ v.cells (w.alloc (.cells v.cells t)) rfl ⟨rfl, rfl, rfl⟩ ?_ ?_ ?_ _ _ (.inl ⟨rfl, rfl⟩), fun b h => by simp at h; subst h; exact R.ev.size⟩
  · intro row hrow
    simp at hrow
    subst hrow
    exact hlen
  · simp; omega
  · intro i row hi j x hx
    cases i with
    | zero =>
      simp at hi
      subst hi
      obtain ⟨u, h1, h2, h3, h4⟩ := hc.2 j x hx
      exact ⟨u, by simpa using h1, h2, h3, h4⟩
    | succ i => simp at hi

theorem cutRows_len {α : Type} (es : Nat) : ∀ (m : Nat) (z : List α), (cutRows es m z).length = m
  | 0, z => rfl
  | m + 1, z => by simp [cutRows, cutRows_len es m]
theorem cutRows_es {α : Type} (es : Nat) : ∀ (m : Nat) (z : List α), z.length = m * es → ∀ row ∈ cutRows es m z, row.length = es
  | 0, z, h, row, hr => by simp [cutRows] at hr
  | m + 1, z, h, row, hr => by
    simp only [cutRows, List.mem_cons] at hr
    rw [Nat.add_mul, Nat.one_mul] at h
    rcases hr with rfl | hr
    · simp; omega
    · exact cutRows_es es m _ (by simp; omega) row hr
theorem cutRows_get {α : Type} (es : Nat) : ∀ (m : Nat) (z : List α) (i : Nat) (row : List α), (cutRows es m z)[i]? = some row → ∀ (j : Nat) (x : α), row[j]? = some x → z[i * es + j]? = some x
  | 0, z, i, row, h, j, x, hx => by simp [cutRows] at h
  | m + 1, z, 0, row, h, j, x, hx => by
    simp [cutRows] at h
    subst h
    rw [List.getElem?_take] at hx
    split at hx
    · simpa using hx
    · cases hx
  | m + 1, z, i + 1, row, h, j, x, hx => by
    simp only [cutRows, List.getElem?_cons_succ] at h
    have := cutRows_get es m _ i row h j x hx
    rw [List.getElem?_drop] at this
    rw [Nat.add_mul, Nat.one_mul, show i * es + es + j = es + (i * es + j) by omega]
    exact this

theorem RB.arr (R : RB w0 I A0 n s a w β A) {t : TypeId} {m es : Nat} {cs : List V} {v : Value} (hc : Cells ⟨w, A, s.h, β⟩ false cs v.cells.toList) (hlen : cs.length = m * es) (d : Nat) (hd : d < n) :
    RRf w0 I A0 n (s.new d ⟨t, es, false, cutRows es m cs⟩ (.ptr d (cutRows es m cs).length 0 0)) (a.put (some d) (.pointer (some ⟨w.heap.size, 0, none⟩))) (w.alloc (.cells v.cells t)) d := by
  have hvs : v.cells.size = cs.length := by simpa using hc.1
  refine ⟨_, _, R.new d hd ⟨t, es, false, cutRows es m cs⟩ v.cells (w.alloc (.cells v.cells t)) rfl ⟨rfl, rfl, rfl⟩ (cutRows_es es m cs hlen) ?_ ?_ _ _ (.inl ⟨rfl, rfl⟩), fun b h => by simp at h; subst h; exact R.ev.size⟩
  · simp only [cutRows_len]; omega
  · intro i row hi j x hx
    obtain ⟨u, h1, h2, h3, h4⟩ := hc.2 _ x (cutRows_get es m cs i row hi j x hx)
    exact ⟨u, by simpa using h1, h2, h3, h4⟩

theorem fillC_rows {es : Nat} : ∀ (parts : List (Nat × V)) (k : Nat) (cs : List V), parts.map (·.1) = List.range' k parts.length → (∀ q ∈ parts, q.2.cells.length = es) → (k + parts.length) * es ≤ cs.length →
    fillC (fun i => some (i * es, es)) cs parts = some (cs.take (k * es) ++ (parts.map (·.2.cells)).flatten ++ cs.drop ((k + parts.length) * es))
  | [], k, cs, _, _, hl => by simp [fillC]
  | (i, x) :: parts, k, cs, hk, hes, hl => by
    simp only [List.map_cons, List.length_cons, List.range'_succ, List.cons.injEq] at hk
    obtain ⟨rfl, hk⟩ := hk
    have hx := hes (i, x) (by simp)
    simp only at hx
    simp only [List.length_cons] at hl
    have h1 : (i + 1 + parts.length) * es ≤ cs.length := by rw [show i + 1 + parts.length = i + (parts.length + 1) from by omega]; exact hl
    have hie : i * es + es ≤ cs.length := by
      have : (i + 1) * es ≤ (i + 1 + parts.length) * es := Nat.mul_le_mul_right _ (by omega)
      rw [Nat.add_mul] at this
      omega
    simp only [fillC, hx]
    rw [if_pos ⟨trivial, hie⟩]
    have hpl : (putAt cs (i * es) x.cells).length = cs.length := by
      simp only [putAt, List.length_append, List.length_take, List.length_drop, hx]; omega
    rw [fillC_rows parts (i + 1) _ hk (fun q hq => hes q (by simp [hq])) (by rw [hpl]; exact h1)]
    congr 1
    have e1 : (putAt cs (i * es) x.cells).take ((i + 1) * es) = cs.take (i * es) ++ x.cells := by
      simp only [putAt]
      rw [List.take_append_of_le_length (by simp [hx, Nat.add_mul]; omega), List.take_of_length_le (by simp [hx, Nat.add_mul]; omega)]
    have e2 : (putAt cs (i * es) x.cells).drop ((i + 1 + parts.length) * es) = cs.drop ((i + (parts.length + 1)) * es) := by
      simp only [putAt, hx]
      have hle : i * es + es ≤ (i + 1 + parts.length) * es := by
        have : (i + 1) * es ≤ (i + 1 + parts.length) * es := Nat.mul_le_mul_right _ (by omega)
        rw [Nat.add_mul] at this
        omega
      have hl2 : (cs.take (i * es) ++ x.cells).length = i * es + es := by simp [hx]; omega
      rw [List.drop_append, List.drop_of_length_le (by rw [hl2]; exact hle), hl2, List.nil_append, List.drop_drop]
      congr 1
      rw [show i + (parts.length + 1) = i + 1 + parts.length from by omega]
      omega
    rw [e1, e2]
    simp

theorem flatten_get {es : Nat} : ∀ (rows : List (List V)), (∀ r ∈ rows, r.length = es) → ∀ (i : Nat) (row : List V), rows[i]? = some row → ∀ (j : Nat) (x : V), row[j]? = some x → rows.flatten[i * es + j]? = some x
  | [], _, i, row, hi, _, _, _ => by simp at hi
  | r :: rows, hes, i, row, hi, j, x, hx => by
    have hr := hes r (by simp)
    cases i with
    | zero =>
      simp at hi
      subst hi
      have hj := (List.getElem?_eq_some_iff.1 hx).1
      simp only [List.flatten_cons, Nat.zero_mul, Nat.zero_add]
      rw [List.getElem?_append_left hj]
      exact hx
    | succ i =>
      simp only [List.flatten_cons]
      rw [List.getElem?_append_right (by rw [hr, Nat.add_mul]; omega), hr, show (i + 1) * es + j - es = i * es + j from by rw [Nat.add_mul]; omega]
      exact flatten_get rows (fun q hq => hes q (by simp [hq])) i row (by simpa using hi) j x hx

theorem flatten_len {es : Nat} : ∀ (rows : List (List V)), (∀ r ∈ rows, r.length = es) → rows.flatten.length = rows.length * es
  | [], _ => by simp
  | r :: rows, h => by
    simp only [List.flatten_cons, List.length_append, List.length_cons, h r (by simp), flatten_len rows (fun q hq => h q (by simp [hq]))]
    rw [Nat.add_mul]
    omega

theorem run_buildSlice0 (w : World) (t e : TypeId) (ie : TypeInfo) (hu : P.underlying t = some (.slice e)) (hie : P.info? e = some ie) :
    (Instr.buildSlice t 0 #[]).run P w = .ok (.slice (some ⟨w.heap.size, 0, none⟩) 0 0) (w.alloc (.cells #[] e)) := by
  have h0 : ∀ f : Nat → Value, Array.map f (Array.range 0) = #[] := fun f => Array.eq_empty_of_size_eq_zero (by simp)
  simp [Instr.buildSlice, run_underlying hu, sizeOf, typeInfo, hie, Instr.fill, newRow, h0]

theorem RB.buildSlice (R : RB w0 I A0 n s a w β A) {t e : TypeId} (he : elemT P t = some e) {len : Nat} {parts : List (Nat × V)} {cparts : Array (Nat × Value)}
    (hidx : parts.map (·.1) = List.range len) (hbig : len * szOf P e ≤ 2 ^ 24) (hpos : 0 < szOf P e) (hz : (zeroCs P e).isSome)
    (hl : cparts.size = parts.length) (hp : ∀ (i : Nat) (q : Nat × V), parts[i]? = some q → ∃ u, cparts[i]? = some (q.1, u) ∧ Rel ⟨w, A, s.h, β⟩ q.2 u)
    (hst : ∀ q ∈ parts, q.2.stor s.h ∧ q.2.cells.length = szOf P e) (d : Nat) (hd : d < n) :
    ∃ r w', (Instr.buildSlice t len cparts).run P w = .ok r w' ∧ RRf w0 I A0 n (s.new d ⟨e, szOf P e, !(parts.all (·.2.pure)), parts.map (·.2.cells)⟩ (.ref d (parts.map (·.2.cells)).length)) (a.put (some d) r) w' d := by
  have hu := elemT_some he
  obtain ⟨zz, hzz⟩ := Option.isSome_iff_exists.1 hz
  obtain ⟨ti, zv, hti, hzv, hzs, hzc⟩ := zeroCs_some hzz
  have hsz : ti.size = szOf P e := by simp [szOf, hti]
  have hlen : parts.length = len := by have := congrArg List.length hidx; simpa using this
  have hzc' := hzc ⟨w, A, s.h, β⟩
  have hzl : zz.length = szOf P e := by have := hzc'.1; simp at this; omega
  generalize hb : (!(parts.all (·.2.pure))) = b
  have hparts : ∀ (i : Nat) (q : Nat × V), parts[i]? = some q → ∃ u, cparts.toList[i]? = some (q.1, u) ∧ Cells ⟨w, A, s.h, β⟩ b q.2.cells u.cells.toList := by
    intro i q hq
    obtain ⟨u, h1, h2⟩ := hp i q hq
    refine ⟨u, by simpa using h1, (Cells.of_rel h2 (hst q (List.mem_of_getElem? hq)).1).weaken b fun hbf => ?_⟩
    rw [hbf] at hb
    simp only [Bool.not_eq_false', List.all_eq_true] at hb
    simp [hb q (List.mem_of_getElem? hq)]
  obtain ⟨cs0, hcs0⟩ : ∃ cs0, cs0 = (List.range (len * szOf P e)).map fun j => zz.getD (j % szOf P e) .dead := ⟨_, rfl⟩
  have hcl : cs0.length = len * szOf P e := by simp [hcs0]
  have hfill := fillC_rows (es := szOf P e) parts 0 cs0 (by rw [hidx, hlen, List.range_eq_range']) (fun q hq => (hst q hq).2) (by rw [hcl, hlen, Nat.zero_add]; exact Nat.le_refl _)
  have hfl : (cs0.take (0 * szOf P e) ++ (parts.map (·.2.cells)).flatten ++ cs0.drop ((0 + parts.length) * szOf P e)) = (parts.map (·.2.cells)).flatten := by
    rw [Nat.zero_mul, List.take_zero, List.nil_append, List.drop_of_length_le (by rw [hcl, hlen, Nat.zero_add]; exact Nat.le_refl _), List.append_nil]
  rw [hfl] at hfill
  have hzero : Cells ⟨w, A, s.h, β⟩ b cs0 ((Array.range (len * ti.size)).map (zv.cells[· % zv.cells.size]!)).toList := by
    refine ⟨by simp [hcl, hsz], fun i x hx => ?_⟩
    have hi : i < len * szOf P e := by rw [← hcl]; exact (List.getElem?_eq_some_iff.1 hx).1
    have hm : i % szOf P e < zz.length := by rw [hzl]; exact Nat.mod_lt _ hpos
    rw [hcs0] at hx
    simp [hi, hm] at hx
    obtain ⟨u, u1, u2, u3, u4⟩ := hzc'.2 (i % szOf P e) x (by rw [List.getElem?_eq_getElem hm, hx])
    refine ⟨u, ?_, u2, u3, fun _ => u4 rfl⟩
    have hm2 : i % szOf P e < zv.cells.size := by rw [hzs]; exact Nat.mod_lt _ hpos
    simp [hsz, hi, hzs]
    rw [getElem!_pos zv.cells _ hm2]
    have := (List.getElem?_eq_some_iff.1 u1).2
    simpa using this
  obtain ⟨vs', g1, g2⟩ := fill_sound (E := ⟨w, A, s.h, β⟩) (imp := b) (place' := fun i => some (i * ti.size, ti.size)) (fun i q hq => by rw [hsz]; exact hq) parts cparts.toList cs0 _ _ (by simpa using hl) hparts hzero hfill
  have hrl : ∀ r ∈ parts.map (·.2.cells), r.length = szOf P e := by
    intro r hr
    obtain ⟨q, hq, rfl⟩ := List.mem_map.1 hr
    exact (hst q hq).2
  have hvl : vs'.size = len * szOf P e := by
    have := g2.1
    rw [flatten_len _ hrl] at this
    simp at this
    rw [this, hlen]
  have hrun : (Instr.buildSlice t len cparts).run P w = .ok (.slice (some ⟨w.heap.size, 0, none⟩) len len) (w.alloc (.cells vs' e)) := by
    rcases Nat.eq_zero_or_pos len with h0 | h0
    · subst h0
      have hv0 : vs' = #[] := Array.eq_empty_of_size_eq_zero (by rw [hvl, Nat.zero_mul])
      have hp0 : cparts = #[] := Array.eq_empty_of_size_eq_zero (by rw [hl, hlen])
      subst hv0 hp0
      exact run_buildSlice0 w t e ti hu hti
    · exact run_buildSlice (P := P) w t e len cparts vs' ti zv hu hti hzv (by rw [hsz]; omega) (by rw [hsz]; exact Nat.ne_of_gt (Nat.mul_pos h0 hpos)) g1
  refine ⟨_, _, hrun, _, _, R.new d hd ⟨e, szOf P e, b, parts.map (·.2.cells)⟩ vs' (w.alloc (.cells vs' e)) rfl ⟨rfl, rfl, rfl⟩ hrl ?_ ?_ _ _ (.inr ⟨rfl, len, ?_, ?_, ?_, hvl⟩), fun b h => by simp at h; subst h; exact R.ev.size⟩
  · simp [hvl, hlen]
  · intro i row hi j x hx
    obtain ⟨u, h1, h2, h3, h4⟩ := g2.2 _ x (flatten_get _ hrl i row hi j x hx)
    exact ⟨u, by simpa using h1, h2, h3, h4⟩
  · simp [hlen]
  · simp [hlen]
  · simp only [maxLen]
    have : len ≤ len * szOf P e := Nat.le_mul_of_pos_right _ hpos
    omega

theorem RB.makeSlice (R : RB w0 I A0 n s a w β A) {t e : TypeId} (he : elemT P t = some e) {zz : List V} (hzz : zeroCs P e = some zz) (hpos : 0 < szOf P e) (kl kc : IntKind) (l c : Int)
    (h0 : 0 ≤ l) (hlc : l ≤ c) (hby : (bytesOf P e : Int) * c ≤ 140737488355328) (hc : c ≤ 9223372036854775807) (d : Nat) (hd : d < n) :
    ∃ r w', (Instr.makeSlice t (.int kl l) (.int kc c)).run P w = .ok r w' ∧ RRf w0 I A0 n (s.new d ⟨e, szOf P e, false, List.replicate l.toNat zz⟩ (.ref d (List.replicate l.toNat zz).length)) (a.put (some d) r) w' d := by
  have hu := elemT_some he
  obtain ⟨ti, zv, hti, hzv, hzs, hzc⟩ := zeroCs_some hzz
  have hsz : ti.size = szOf P e := by simp [szOf, hti]
  have hbb : bytesOf P e = ti.bytes := by simp [bytesOf, hti]
  have hzc' := hzc ⟨w, A, s.h, β⟩
  have hzl : zz.length = szOf P e := by have := hzc'.1; simp at this; omega
  rw [hbb] at hby
  have hrun := run_make (P := P) w t e ti zv hu hti hzv kl kc l c h0 hlc (by omega) hc
  refine ⟨_, _, hrun, _, _, R.new d hd ⟨e, szOf P e, false, List.replicate l.toNat zz⟩ (madeCells zv.cells (c.toNat * ti.size)) (w.alloc (.cells (madeCells zv.cells (c.toNat * ti.size)) e)) rfl ⟨rfl, rfl, rfl⟩ ?_ ?_ ?_ _ _ (.inr ⟨rfl, c.toNat, ?_, ?_, ?_, ?_⟩), fun b h => by simp at h; subst h; exact R.ev.size⟩
  · intro row hrow
    rw [(List.mem_replicate.1 hrow).2]; exact hzl
  · simp only [List.length_replicate, size_madeCells, hsz]
    exact Nat.mul_le_mul_right _ (by omega)
  · intro i row hi j x hx
    have hil : i < l.toNat := by have := (List.getElem?_eq_some_iff.1 hi).1; simpa using this
    have hrow : row = zz := by
      have := (List.mem_replicate.1 (List.mem_of_getElem? hi)).2; exact this
    subst hrow
    have hj : j < szOf P e := by rw [← hzl]; exact (List.getElem?_eq_some_iff.1 hx).1
    obtain ⟨u, u1, u2, u3, u4⟩ := hzc'.2 j x hx
    refine ⟨u, ?_, u2, u3, fun _ => u4 rfl⟩
    have hin : i * szOf P e + j < c.toNat * szOf P e := by
      have h1 : (i + 1) * szOf P e ≤ c.toNat * szOf P e := Nat.mul_le_mul_right _ (by omega)
      rw [Nat.add_mul] at h1; omega
    have hm : (i * szOf P e + j) % szOf P e = j := by rw [Nat.mul_comm, Nat.mul_add_mod]; exact Nat.mod_eq_of_lt hj
    have hm2 : j < zv.cells.size := by rw [hzs]; exact hj
    simp only [madeCells, hsz, hzs]
    simp [hin, hm]
    rw [getElem!_pos zv.cells _ hm2]
    have := (List.getElem?_eq_some_iff.1 u1).2
    simpa using this
  · simp
  · simp; omega
  · simp only [maxLen]; omega
  · simp [size_madeCells, hsz]

end
end Go.AL
