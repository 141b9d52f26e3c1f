/-
  THE ABSTRACT LAYER: parts of an own slice: s[:i] takes the slice; clear(s[i:]). By an AI agent.
-/
import Derived.Test.YtbhnmholmpdmeaaGreatAlInl
import Derived.Test.YtbhnmholmpdmeaaGreatAlLent
namespace Go.AL
set_option linter.unusedVariables false
set_option linter.unusedSimpArgs false
set_option linter.unusedSectionVars false

section
variable {P : Program} {w0 : World} {I : Imp} {A0 : Nat → Prop} {n : Nat} {s : St} {a : Act} {w : World} {β : Nat → Option Nat} {A : Nat → Prop}

theorem RB.cut (R : RB w0 I A0 n s a w β A) {q : Nat} {ob : Ob} (hq : s.h q = some ob) (himp : ob.imp = false) {u : Value} (hu : Rel ⟨w, A, s.h, β⟩ (.ref q ob.rows.length) u) {t e : TypeId} (ht : elemT P t = some e) (hs : szOf P e = ob.es) (hpos : 0 < ob.es)
    {k : IntKind} {i : Int} (h0 : 0 ≤ i) (h1 : i ≤ ob.rows.length) {d : Nat} (hd : d < n) :
    ∃ r, (Instr.sliceAt t u none (some (.int k i)) none).run P w = .ok r w ∧ RR w0 I A0 n (s.callL (some d) [.o ob.ty ob.es (ob.rows.take i.toNat)] [q] [ob] [none]) (a.put (some d) r) w := by
  have href := hu ob hq
  obtain ⟨_, href⟩ := href
  have href := href rfl
  have hok := R.obs.ok q ob hq
  have hl : lentOK s.h [q] [ob] := by
    refine ⟨by simp, rfl, fun j q' ob' h1 h2 => ?_⟩
    cases j with
    | zero => simp at h1 h2; subst h1 h2; exact ⟨hq, himp⟩
    | succ j => simp at h1
  have hn : ((ob.rows.take i.toNat).length : Int) = i := by rw [List.length_take]; omega
  have hlen : (ob.rows.take i.toNat).length = i.toNat := by rw [List.length_take]; omega
  have hout : ∀ j, outO [ob] [none] j = none := fun j => by
    unfold outO
    cases j with
    | zero => rfl
    | succ j => simp
  have hpost : ∀ p o, postH [ob] [.o ob.ty ob.es (ob.rows.take i.toNat)] [none] p = some o → p = 0 ∧ o = ⟨ob.ty, ob.es, false, ob.rows.take i.toNat⟩ := fun p o h => by
    unfold postH at h
    split at h
    · rw [hout] at h; cases h
    · match p, h with
      | 0, h => simp [rdH, RD.ob] at h; exact ⟨rfl, h.symm⟩
      | p + 1, h => simp [rdH] at h
  have hp0 : postH [ob] [.o ob.ty ob.es (ob.rows.take i.toNat)] [none] 0 = some ⟨ob.ty, ob.es, false, ob.rows.take i.toNat⟩ := by simp [postH, rdH, RD.ob]
  have hlb : lentB β [q] 500 = β q := by simp [lentB]
  have fin : ∀ r, RefAt ⟨w, A, postH [ob] [.o ob.ty ob.es (ob.rows.take i.toNat)] [none], fun _ => β q⟩ ⟨ob.ty, ob.es, false, ob.rows.take i.toNat⟩ (β q) (ob.rows.take i.toNat).length r → RR w0 I A0 n (s.callL (some d) [.o ob.ty ob.es (ob.rows.take i.toNat)] [q] [ob] [none]) (a.put (some d) r) w := fun r hr => by
    refine R.callL (us := [r]) (β' := fun _ => β q) (A' := A) (w' := w) hl (fun rd h => by simp at h; subst h; rfl) ?_ (some d) (fun k hk => by cases hk; exact hd)
    refine ⟨rfl, by simp, ⟨fun p o h => ?_, fun p p' o1 o2 b g1 g2 _ _ => ?_, R.obs.lt⟩, fun p rd h => ?_, fun _ _ h => h, ⟨rfl, rfl, rfl, Nat.le_refl _, fun _ _ _ => rfl⟩, fun p o b g1 g2 => ?_, fun j o o' g1 g2 => by rw [hout] at g2; cases g2⟩
    · obtain ⟨rfl, rfl⟩ := hpost p o h
      simp only
      simp only at hok
      cases hb : β q with
      | none => rw [hb] at hok; show ob.rows.take i.toNat = []; rw [show ob.rows = [] from hok]; simp
      | some b =>
        rw [hb] at hok
        obtain ⟨hA, cur, c1, c2, c3, c4⟩ := hok
        refine ⟨hA, cur, c1, fun row hr => c2 row (List.mem_of_mem_take hr), ?_, fun j row hj l x hx => ?_⟩
        · exact Nat.le_trans (Nat.mul_le_mul_right _ (by show (ob.rows.take i.toNat).length ≤ _; rw [List.length_take]; exact Nat.min_le_right _ _)) c3
        · have hj' : ob.rows[j]? = some row := by
            have hj : (ob.rows.take i.toNat)[j]? = some row := hj
            rw [List.getElem?_take] at hj
            split at hj
            · exact hj
            · cases hj
          obtain ⟨v, d1, d2, d3, d4⟩ := c4 j row hj' l x hx
          exact ⟨v, d1, d2, Rel1.of_relP (d4 himp), fun _ => d4 himp⟩
    · rw [(hpost p o1 g1).1, (hpost p' o2 g2).1]
    · cases p with
      | succ p => simp at h
      | zero =>
        simp at h
        subst h
        refine ⟨r, rfl, ?_⟩
        show RelA _ (.ref 0 _) r
        intro o ho
        rw [show (⟨w, A, postH [ob] [.o ob.ty ob.es (ob.rows.take i.toNat)] [none], fun _ => β q⟩ : Env).h 0 = _ from hp0] at ho
        cases ho
        exact hr
    · refine .inr ⟨0, ob, rfl, hout 0, ?_⟩
      rw [show 500 + 0 = 500 from rfl, hlb]; exact g2
  cases hb : β q with
  | none =>
    simp only [hb] at href
    simp only [hb] at hok
    have hr0 : ob.rows = [] := hok
    have hi0 : i = 0 := by rw [hr0] at h1; simp at h1; omega
    subst hi0
    subst href
    refine ⟨_, run_sliceAt ht hs hpos none 0 0 0 0 none (some (.int k 0)) (.inl ⟨rfl, rfl⟩) (.inr ⟨k, rfl⟩) (Nat.le_refl _) (Nat.le_refl _) w, fin _ ⟨Nat.le_refl _, fun _ => ?_⟩⟩
    rw [hb]; rfl
  | some b =>
    simp only [hb] at href
    obtain ⟨cap, cur, rfl, hc1, hc2, hc3, hc4⟩ := href
    have hi : i.toNat ≤ cap := by omega
    have hr := run_sliceAt (P := P) ht hs hpos (some ⟨b, 0, none⟩) ob.rows.length cap 0 i.toNat none (some (.int k i)) (.inl ⟨rfl, rfl⟩) (.inr ⟨k, by congr 2; omega⟩) (Nat.zero_le _) hi w
    refine ⟨_, hr, fin _ ⟨Nat.le_refl _, fun _ => ?_⟩⟩
    rw [hb]
    refine ⟨cap, cur, ?_, by rw [hlen]; exact hi, hc2, hc3, hc4⟩
    rw [hlen]
    simp
    exact fun _ => rfl

end
end Go.AL
