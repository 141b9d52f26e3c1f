/-
  Layer 30 (sched): scripts: what every step keeps. No program in sight. By an AI agent.
-/
import Derived.Test.YtmdmmikpmhopkaaKx
import Derived.Test.YtmdmmikpmhopkaaK21
set_option linter.unusedVariables false
set_option linter.unusedSimpArgs false
namespace Go.AL
open Go.Proofs
theorem chg_err {s : SSd} {id : Int} {f : SDs → List SDs × Int} (h : (chgS s id f).2 ≠ 0) : (chgS s id f).1 = zSs := by
 unfold chgS at h ⊢
 cases hv : valS s
 ·rfl
 cases ho : decide (opnI id s.2.2 0 < 0)
 case true => rfl
 rw [hv,ho] at h
 simp only [Bool.not_true,cond_false] at h ⊢
 cases hz : decide ((f (s.2.2.getD (opnI id s.2.2 0).toNat zDs)).2 = 0)
 ·rfl
 ·rw [hz] at h; exact absurd rfl h
theorem add_err {a : SSd × Int × Int × Int × Int} (h : (addS a).2 ≠ 0) : (addS a).1 = zSs := by
 unfold addS at h ⊢
 cases hv : valS a.1
 ·rfl
 rw [hv] at h
 cases h1 : vdiS (newDs a.1 a.2.1 a.2.2.1 a.2.2.2.1 a.2.2.2.2,a.1.1,a.1.2.1)
 ·rfl
 cases h2 : a.1.2.2.any (fun d => decide (d.1 = a.2.1))
 case true => rfl
 cases h3 : decide (utS (insL (newDs a.1 a.2.1 a.2.2.1 a.2.2.2.1 a.2.2.2.2) a.1.2.2) > 1024)
 case true => rfl
 rw [h1,h2,h3] at h
 exact absurd rfl h
structure Sc (s : SSd) (t : Nat) : Prop where
 val : valS s = true
 now : s.1 ≤ (t : Int)
 vir : s.2.1 ≤ 2520 * (t : Int)
theorem Sc.ok {s : SSd} {t : Nat} (h : Sc s t) : okD s = true := val_ok h.val
theorem Sc.mono {s : SSd} {t u : Nat} (h : Sc s t) (hu : t ≤ u) : Sc s u := ⟨h.val,by have := h.now; omega,by have := h.vir; omega⟩
theorem Sc.zero : Sc (0,0,[]) 0 := ⟨by decide +kernel,by simp,by simp⟩
end Go.AL
