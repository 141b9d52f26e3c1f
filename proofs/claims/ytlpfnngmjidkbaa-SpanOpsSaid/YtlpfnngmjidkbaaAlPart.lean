/-
  THE ABSTRACT LAYER: parts of an own slice: s[:i] takes the slice; clear(s[i:]). By an AI agent.
-/
import Derived.Test.YtlpfnngmjidkbaaAlInl
import Derived.Test.YtlpfnngmjidkbaaAlLent
namespace Go.AL
set_option linter.unusedVariables false
set_option linter.unusedSimpArgs false
set_option linter.unusedSectionVars false

section
variable {P : Program} {w0 : World} {I : Imp} {A0 : Nat → Prop} {n : Nat} {s : St} {a : Act} {w : World} {β : Nat → Option Nat} {A : Nat → Prop}

theorem RB.cut (R : RB w0 I A0 n s a w β A) {q : Nat} {ob : Ob} (hq : s.h q = some ob) (himp : ob.imp = false) {u : Value} (hu : Rel ⟨w, A, s.h, β⟩ (.ref q ob.rows.length) u) {t e : TypeId} (ht : elemT P t = some e) (hs : szOf P e = ob.es) (hpos : 0 < ob.es)
    {k : IntKind} {i : Int} (h0 : 0 ≤ i) (h1 : i ≤ ob.rows.length) {d : Nat} (hd : d < n) :
    ∃ r, (Instr.sliceAt t u none (some (.int k i)) none).run P w = .ok r w ∧ RR w0 I A0 n (s.callL (some d) [.o ob.ty ob.es (ob.rows.take i.toNat)] [q] [ob] [none]) (a.put (some d) r) w := by
  have href := hu ob hq
  obtain ⟨_, href⟩ := href
  have href := href rfl
  have hok := R.obs.ok q ob hq
  have hl : lentOK s.h [q] [ob] := by
    refine ⟨by simp, rfl, fun j q' ob' h1 h2 => ?_⟩
    cases j with
    | zero => simp at h1 h2; subst h1 h2; exact ⟨hq, himp⟩
    | succ j => simp at h1
  have hn : ((ob.rows.take i.toNat).length : Int) = i := by rw [List.length_take]; omega
  have hlen : (ob.rows.take i.toNat).length = i.toNat := by rw [List.length_take]; omega
  have hout : ∀ j, outO [ob] [none] j = none := fun j => by
    unfold outO
    cases j with
    | zero => rfl
    | succ j => simp
  have hpost : ∀ p o, postH [ob] [.o ob.ty ob.es (ob.rows.take i.toNat)] [none] p = some o → p = 0 ∧ o = ⟨ob.ty, ob.es, false, ob.rows.take i.toNat⟩ := fun p o h => by
    unfold postH at h
    split at h
    · rw [hout] at h; cases h
    · match p, h with
      | 0, h => simp [rdH, RD.ob] at h; exact ⟨rfl, h.symm⟩
      | p + 1, h => simp [rdH] at h
  have hp0 : postH [ob] [.o ob.ty ob.es (ob.rows.take i.toNat)] [none] 0 = some ⟨ob.ty, ob.es, false, ob.rows.take i.toNat⟩ := by simp [postH, rdH, RD.ob]
  have hlb : lentB β [q] 500 = β q := by simp [lentB]
  have fin : ∀ r, RefAt ⟨w, A, postH [ob] [.o ob.ty ob.es (ob.rows.take i.toNat)] [none], fun _ => β q⟩ ⟨ob.ty, ob.es, false, ob.rows.take i.toNat⟩ (β q) (ob.rows.take i.toNat).length r → RR w0 I A0 n (s.callL (some d) [.o ob.ty ob.es (ob.rows.take i.toNat)] [q] [ob] [none]) (a.put (some d) r) w := fun r hr => by
    refine R.callL (us := [r]) (β' := fun _ => β q) (A' := A) (w' := w) hl (fun rd h => by simp at h; subst h; rfl) ?_ (some d) (fun k hk => by cases hk; exact hd)
    refine ⟨rfl, by simp, ⟨fun p o h => ?_, fun p p' o1 o2 b g1 g2 _ _ => ?_, R.obs.lt⟩, fun p rd h => ?_, fun _ _ h => h, ⟨rfl, rfl, rfl, Nat.le_refl _, fun _ _ _ => rfl⟩, fun p o b g1 g2 => ?_, fun j o o' g1 g2 => by rw [hout] at g2; cases g2⟩
    · obtain ⟨rfl, rfl⟩ := hpost p o h
      simp only
      simp only at hok
      cases hb : β q with
      | none => rw [hb] at hok; show ob.rows.take i.toNat = []; rw [show ob.rows = [] from hok]; simp
      | some b =>
        rw [hb] at hok
        obtain ⟨hA, cur, c1, c2, c3, c4⟩ := hok
        refine ⟨hA, cur, c1, fun row hr => c2 row (List.mem_of_mem_take hr), ?_, fun j row hj l x hx => ?_⟩
        · exact Nat.le_trans (Nat.mul_le_mul_right _ (by show (ob.rows.take i.toNat).length ≤ _; rw [List.length_take]; exact Nat.min_le_right _ _)) c3
        · have hj' : ob.rows[j]? = some row := by
            have hj : (ob.rows.take i.toNat)[j]? = some row := hj
            rw [List.getElem?_take] at hj
            split at hj
            · exact hj
            · cases hj
          obtain ⟨v, d1, d2, d3, d4⟩ := c4 j row hj' l x hx
          exact ⟨v, d1, d2, Rel1.of_relP (d4 himp), fun _ => d4 himp⟩
    · rw [(hpost p o1 g1).1, (hpost p' o2 g2).1]
    · cases p with
      | succ p => simp at h
      | zero =>
        simp at h
        subst h
        refine ⟨r, rfl, ?_⟩
        show RelA _ (.ref 0 _) r
        intro o ho
        rw [show (⟨w, A, postH [ob] [.o ob.ty ob.es (ob.rows.take i.toNat)] [none], fun _ => β q⟩ : Env).h 0 = _ from hp0] at ho
        cases ho
        exact hr
    · refine .inr ⟨0, ob, rfl, hout 0, ?_⟩
      rw [show 500 + 0 = 500 from rfl, hlb]; exact g2
  cases hb : β q with
  | none =>
    simp only [hb] at href
    simp only [hb] at hok
    have hr0 : ob.rows = [] := hok
    have hi0 : i = 0 := by rw [hr0] at h1; simp at h1; omega
    subst hi0
    subst href
    refine ⟨_, run_sliceAt ht hs hpos none 0 0 0 0 none (some (.int k 0)) (.inl ⟨rfl, rfl⟩) (.inr ⟨k, rfl⟩) (Nat.le_refl _) (Nat.le_refl _) w, fin _ ⟨Nat.le_refl _, fun _ => ?_⟩⟩
    rw [hb]; rfl
  | some b =>
    simp only [hb] at href
    obtain ⟨cap, cur, rfl, hc1, hc2, hc3, hc4⟩ := href
    have hi : i.toNat ≤ cap := by omega
    have hr := run_sliceAt (P := P) ht hs hpos (some ⟨b, 0, none⟩) ob.rows.length cap 0 i.toNat none (some (.int k i)) (.inl ⟨rfl, rfl⟩) (.inr ⟨k, by congr 2; omega⟩) (Nat.zero_le _) hi w
    refine ⟨_, hr, fin _ ⟨Nat.le_refl _, fun _ => ?_⟩⟩
    rw [hb]
    refine ⟨cap, cur, ?_, by rw [hlen]; exact hi, hc2, hc3, hc4⟩
    rw [hlen]
    simp
    exact fun _ => rfl

theorem RB.clr (R : RB w0 I A0 n s a w β A) {q : Nat} {ob : Ob} (hq : s.h q = some ob) (himp : ob.imp = false) {u : Value} (hu : Rel ⟨w, A, s.h, β⟩ (.ref q ob.rows.length) u) {t e : TypeId} (ht : elemT P t = some e) (hs : szOf P e = ob.es) (hpos : 0 < ob.es)
    {k : IntKind} {i : Int} (h0 : 0 ≤ i) (h1 : i ≤ ob.rows.length) {d : Nat} (hd : d < n) {z : List V} (hz : zeroCs P e = some z) :
    ∃ r w', (Instr.sliceAt t u (some (.int k i)) none none).run P w = .ok r w ∧ (∀ ty, (Builtin.clear_ #[t] ty #[r]).run P w = .ok (.tuple #[]) w') ∧
      RR w0 I A0 n ((s.setOb q { ob with rows := ob.rows.take i.toNat ++ List.replicate (ob.rows.length - i.toNat) z }).put (some d) .dead) (a.put (some d) r) w' := by
  have href := hu ob hq
  obtain ⟨_, href⟩ := href
  have href := href rfl
  have hok := R.obs.ok q ob hq
  have hu' := elemT_some ht
  have hi : i.toNat ≤ ob.rows.length := by omega
  have same : ob.rows.length = i.toNat → ∀ r, RR w0 I A0 n ((s.setOb q { ob with rows := ob.rows.take i.toNat ++ List.replicate (ob.rows.length - i.toNat) z }).put (some d) .dead) (a.put (some d) r) w := fun he r => by
    have e1 : ({ ob with rows := ob.rows.take i.toNat ++ List.replicate (ob.rows.length - i.toNat) z } : Ob) = ob := by
      rw [← he, Nat.sub_self, List.take_of_length_le (Nat.le_refl _)]; simp
    have e2 : s.setOb q ob = s := by
      unfold St.setOb setH
      have : (fun p => if p = q then some ob else s.h p) = s.h := by
        funext p
        by_cases hp : p = q
        · rw [if_pos hp, hp]; exact hq.symm
        · rw [if_neg hp]
      rw [this]
    rw [e1, e2]
    exact ⟨_, _, R.put (some d) (fun k hk => by cases hk; exact hd) .dead r trivial⟩
  cases hb : β q with
  | none =>
    simp only [hb] at href
    simp only [hb] at hok
    have hr0 : ob.rows = [] := hok
    have hi0 : i = 0 := by rw [hr0] at h1; simp at h1; omega
    subst hi0
    subst href
    refine ⟨_, w, run_sliceAt ht hs hpos none 0 0 0 0 (some (.int k 0)) none (.inr ⟨k, rfl⟩) (.inl ⟨rfl, rfl⟩) (Nat.le_refl _) (Nat.le_refl _) w, fun ty => ?_, same (by rw [hr0]; rfl) _⟩
    simp [Builtin.clear_, run_underlying hu']
  | some b =>
    simp only [hb] at href
    obtain ⟨cap, cur, rfl, hc1, hc2, hc3, hc4⟩ := href
    have hr := run_sliceAt (P := P) ht hs hpos (some ⟨b, 0, none⟩) ob.rows.length cap i.toNat ob.rows.length (some (.int k i)) none (.inr ⟨k, by congr 2; omega⟩) (.inl ⟨rfl, rfl⟩) hi hc1 w
    by_cases hz0 : ob.rows.length = i.toNat
    · refine ⟨_, w, hr, fun ty => ?_, same hz0 _⟩
      rw [hz0, Nat.sub_self]
      by_cases hcap : cap = i.toNat
      · simp [Builtin.clear_, run_underlying hu', hcap]
      · simp [Builtin.clear_, run_underlying hu', hcap]
    · have hcap : ¬ cap = i.toNat := by omega
      rw [if_neg hcap] at hr
      simp only [hb] at hok
      obtain ⟨hA, cur', c1, c2, c3, c4⟩ := hok
      simp only at c1 hc3
      have : cur' = cur := by rw [hc3] at c1; cases c1; rfl
      subst this
      obtain ⟨ti, zv, z1, z2, z3, z4⟩ := zeroCs_some hz
      obtain ⟨zl, zc⟩ := z4 ⟨w, A, s.h, β⟩
      have zsz : zv.cells.size = ob.es := by rw [z3, hs]
      have zl' : z.length = ob.es := by rw [← zl, Array.length_toList, zsz]
      obtain ⟨m, hm⟩ : ∃ m, m = ob.rows.length - i.toNat := ⟨_, rfl⟩
      have hm0 : 0 < m := by omega
      obtain ⟨zs, hzs⟩ : ∃ zs, zs = (Builtin.zeroCells zv.cells m).toList := ⟨_, rfl⟩
      have hzl : zs.length = m * ob.es := by rw [hzs, Array.length_toList, size_zeroCells, zsz]
      have hzg : ∀ j, j < m * ob.es → zs[j]? = zv.cells[j % ob.es]? := fun j hj => by
        rw [hzs, Array.getElem?_toList]
        have hlt : j % ob.es < zv.cells.size := by rw [zsz]; exact Nat.mod_lt _ hpos
        simp only [Builtin.zeroCells, Array.getElem?_map]
        rw [Array.getElem?_range]
        rw [zsz, if_pos hj]
        simp [hlt]
      have h1c : ∀ v ∈ zs, v.oneCell' = true := fun v hv => by
        obtain ⟨j, hj, hv⟩ := List.getElem_of_mem hv
        have h3 := hzg j (by rw [← hzl]; exact hj)
        rw [List.getElem?_eq_getElem hj, hv] at h3
        have hlt : j % ob.es < z.length := by rw [zl']; exact Nat.mod_lt _ hpos
        obtain ⟨u, u1, u2, _⟩ := zc (j % ob.es) _ (List.getElem?_eq_getElem hlt)
        rw [Array.getElem?_toList, ← h3] at u1
        cases u1; exact u2
      have hfit : i.toNat * ob.es + zs.length ≤ cur'.size := by
        rw [hzl, ← Nat.add_mul]
        refine Nat.le_trans ?_ c3
        exact Nat.mul_le_mul_right _ (by omega)
      obtain ⟨C, hC⟩ : ∃ C, C = cur'.toList.take (i.toNat * ob.es) ++ zs ++ cur'.toList.drop (i.toNat * ob.es + zs.length) := ⟨_, rfl⟩
      have hCl : C.length = cur'.size := by
        rw [hC]
        simp only [List.length_append, List.length_take, List.length_drop, Array.length_toList]
        omega
      have hst := run_storeCells_at (P := P) b (i.toNat * ob.es) ob.ty zs 0 cur' w c1 (by simpa using hfit) h1c
      simp only [Nat.add_zero] at hst
      rw [← hC] at hst
      have hclr : ∀ ty, (Builtin.clear_ #[t] ty #[.slice (some ⟨b, i.toNat * ob.es, none⟩) m (cap - i.toNat)]).run P w = .ok (.tuple #[]) (w.setRow b C.toArray) := fun ty => by
        obtain ⟨m', rfl⟩ : ∃ m', m = m' + 1 := ⟨m - 1, by omega⟩
        have hzv : (zeroValue e).run P w = .ok zv w := by simp [zeroValue, typeInfo, z1, z2]
        simp [Builtin.clear_, run_underlying hu', hzv, ← hzs, hst]
      have hadd : (Option.map (fun x : Addr => x.add (i.toNat * ob.es)) (some ⟨b, 0, none⟩)) = some ⟨b, i.toNat * ob.es, none⟩ := by
        simp [Addr.add_lit]
      rw [hadd, ← hm] at hr
      refine ⟨_, _, hr, hclr, _, _, R.repl q ob { ob with rows := ob.rows.take i.toNat ++ List.replicate (ob.rows.length - i.toNat) z } hq rfl rfl (by simp; omega) _ b C.toArray (setRow_heap w b cur' _ ob.ty _ c1)
        (.inl ⟨hb, fun cur2 h2 => by rw [c1] at h2; cases h2; rw [List.size_toArray, hCl]⟩) (fun k hk hne => setRow_other w b k _ (fun e => hne (by rw [hb, e]))) (by simp [World.setRow]) ⟨rfl, rfl, rfl⟩ ?_ ?_ ?_ (some d) (fun k hk => by cases hk; exact hd) .dead _ (.inl rfl)⟩
      · intro row hr
        rcases List.mem_append.1 hr with hr | hr
        · exact c2 row (List.mem_of_mem_take hr)
        · rw [List.eq_of_mem_replicate hr]; exact zl'
      · rw [List.size_toArray, hCl]
        refine Nat.le_trans (Nat.mul_le_mul_right _ ?_) c3
        simp; omega
      · intro j row hj l x hx
        have hlE : l < ob.es := by
          have hrl : row.length = ob.es := by
            have hmem := List.mem_of_getElem? hj
            rcases List.mem_append.1 hmem with hr | hr
            · exact c2 row (List.mem_of_mem_take hr)
            · rw [List.eq_of_mem_replicate hr]; exact zl'
          rw [← hrl]; exact (List.getElem?_eq_some_iff.1 hx).1
        have htl : (ob.rows.take i.toNat).length = i.toNat := by rw [List.length_take]; omega
        have hct : (cur'.toList.take (i.toNat * ob.es)).length = i.toNat * ob.es := by
          rw [List.length_take, Array.length_toList]; omega
        by_cases hji : j < i.toNat
        · rw [List.getElem?_append_left (by rw [htl]; exact hji), List.getElem?_take, if_pos hji] at hj
          obtain ⟨v, d1, d2, d3, d4⟩ := c4 j row hj l x hx
          have hidx : j * ob.es + l < i.toNat * ob.es := by
            have := Nat.mul_le_mul_right ob.es (show j + 1 ≤ i.toNat from hji)
            rw [Nat.succ_mul] at this
            omega
          refine ⟨v, ?_, d2, d3, fun _ => d4 himp⟩
          rw [List.getElem?_toArray, hC, List.append_assoc, List.getElem?_append_left (by rw [hct]; exact hidx), List.getElem?_take, if_pos hidx, Array.getElem?_toList]
          exact d1
        · rw [List.getElem?_append_right (by rw [htl]; omega), htl] at hj
          have hlt := (List.getElem?_eq_some_iff.1 hj).1
          rw [List.length_replicate] at hlt
          rw [List.getElem?_replicate, if_pos hlt] at hj
          cases hj
          obtain ⟨u, u1, u2, u3, u4⟩ := zc l x hx
          have hidx : j * ob.es + l = i.toNat * ob.es + ((j - i.toNat) * ob.es + l) := by
            have : j * ob.es = i.toNat * ob.es + (j - i.toNat) * ob.es := by rw [← Nat.add_mul]; congr 1; omega
            omega
          have hlt2 : (j - i.toNat) * ob.es + l < m * ob.es := by
            have := Nat.mul_le_mul_right ob.es (show j - i.toNat + 1 ≤ m by omega)
            rw [Nat.succ_mul] at this
            omega
          refine ⟨u, ?_, u2, u3, fun _ => u4 rfl⟩
          rw [List.getElem?_toArray, hC, List.append_assoc, hidx, List.getElem?_append_right (by rw [hct]; omega), hct, Nat.add_sub_cancel_left, List.getElem?_append_left (by rw [hzl]; exact hlt2), hzg _ hlt2,
            Nat.mul_comm, Nat.mul_add_mod, Nat.mod_eq_of_lt hlE, ← Array.getElem?_toList]
          exact u1
end
end Go.AL
