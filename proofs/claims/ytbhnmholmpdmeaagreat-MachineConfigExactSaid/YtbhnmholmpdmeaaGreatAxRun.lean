/-
  THE EXECUTOR, EIGHTH PART: results; a whole function, run; its contract. By an AI agent.
-/
import Derived.Test.YtbhnmholmpdmeaaGreatAxCut
namespace Go.AL
set_option linter.unusedVariables false
set_option linter.unusedSimpArgs false
set_option linter.unusedSectionVars false

/-! ### Results -/
def resD (h : Nat → Option XOb) (k : RK) (x : X) : Option (k.T × List Nat × List Nat) := match k with
  | .v t => match sclD h t x with
    | some (v, f) => some (v, f, [])
    | none => none
  | .g τ => match x with
    | .agg true cs => (match srowD h τ cs with
      | some (v, f) => some (v, f, [])
      | none => none)
    | .agg false cs => (match rowD τ cs with
      | some v => some (v, [], [])
      | none => none)
    | _ => none
  | .o ty es τ => match x with
    | .nil => some ([], [], [])
    | .ref p ver => (match h p with
      | some (.t v ty' es' σ l) => if hτ : tysEq σ τ = true then bif Nat.beq v ver && Nat.beq ty' ty && Nat.beq es' es then some (castL l hτ, [], [p]) else none else none
      | some (.u v ty' es' imp rows) => bif Nat.beq v ver && Nat.beq ty' ty && Nat.beq es' es && !imp then (match rowsD τ rows with
        | some l => some (l, [], [p])
        | none => none) else none
      | none => none)
    | _ => none

def pair4 {A B : Type} (a : Option (A × List Nat × List Nat)) (b : Option (B × List Nat × List Nat)) : Option ((A × B) × List Nat × List Nat) := match a with
  | some (a, f, s) => match b with
    | some (b, g, t) => some ((a, b), f ++ g, s ++ t)
    | none => none
  | none => none
def ressD1 {A : Type} (h : Nat → Option XOb) (f : X → Option (A × List Nat × List Nat)) : (ks : List RK) → List X → Option (ResT.ResT1 A ks × List Nat × List Nat)
  | [] => fun xs => match xs with
    | [x] => f x
    | _ => none
  | k :: ks => fun xs => match xs with
    | x :: r => pair4 (f x) (ressD1 h (resD h k) ks r)
    | [] => none
def ressD (h : Nat → Option XOb) : (ks : List RK) → List X → Option (ResT ks × List Nat × List Nat)
  | [] => fun xs => match xs with
    | [] => some ((), [], [])
    | _ => none
  | k :: ks => fun xs => ressD1 h (resD h k) ks xs

def Kret (P : Program) (rs : List ResultVar) (rk : List RK) (s : XSt) : Option (ResT rk) := match resVars P s rs with
  | some xs => match ressD s.h rk xs with
    | some (r, f, own) => bif nodupN own && disjN f own then some r else none
    | none => none
  | none => none

section
variable {xs : XSt} {s : St}

theorem pureC_retC {F : Nat → Prop} {v v' : V} (h : pureC s F v v') : retC s.h v v' ∧ ∀ o ∈ refN v, F o := by
  rcases h with ⟨rfl, hp, hna⟩ | ⟨p, n, ob, rfl, hF, h1, h2, h3, rfl⟩
  · cases v' <;> first | exact ⟨.inl ⟨rfl, hp⟩, fun o ho => by simp [refN] at ho⟩ | (simp [V.pure] at hp; done) | exact absurd rfl (hna _)
  · refine ⟨⟨ob, h1, h3, h2, rfl⟩, fun o ho => ?_⟩
    simp [refN] at ho
    subst ho
    exact hF

theorem pureCs_retCs {F : Nat → Prop} : ∀ {vs vs' : List V}, All2 (pureC s F) vs vs' → retCs s.h vs vs' ∧ ∀ o ∈ vs.flatMap refN, F o
  | [], [], _ => ⟨trivial, fun o ho => by simp at ho⟩
  | v :: vs, v' :: vs', h => by
    obtain ⟨h1, h2⟩ := pureC_retC h.1
    obtain ⟨h3, h4⟩ := pureCs_retCs h.2
    refine ⟨⟨h1, h3⟩, fun o ho => ?_⟩
    simp only [List.flatMap_cons, List.mem_append] at ho
    rcases ho with ho | ho
    · exact h2 o ho
    · exact h4 o ho
  | [], _ :: _, h => h.elim
  | _ :: _, [], h => h.elim

theorem resD_ok (R : RS xs s) (k : RK) {x : X} {y : k.T} {f own : List Nat} {v : V} (h : resD xs.h k x = some (y, f, own)) (hv : XV ⟨xs.c, xs.h, s.h⟩ x v) :
    ∃ rd, ResV k y rd ∧ retX s.h v rd ∧ (∀ o ∈ frzN v rd, o ∈ f) ∧ (∀ o, ownN v rd = some o → own = [o]) := by
  cases k with
  | v t =>
    simp only [resD] at h
    split at h <;> try (cases h; done)
    rename_i v0 g hg
    simp only [Option.some.injEq, Prod.mk.injEq] at h
    obtain ⟨rfl, rfl, rfl⟩ := h
    obtain ⟨v', h1, h2⟩ := sclD_ok (F := fun p => p ∈ f) R t hg hv (fun p hp => hp)
    obtain ⟨h3, h4⟩ := pureC_retC h1
    refine ⟨.v v', ⟨v', rfl, h2⟩, ?_, ?_, ?_⟩
    · have hna := (tyV_pure t _ v' h2).2
      cases v <;> try exact h3
      · simp [retC, V.pure] at h3; exact absurd h3 (hna _)
      · simp [retC, V.pure] at h3
    · intro o ho
      apply h4
      cases v <;> simp only [frzN, refN] at ho ⊢ <;> first | exact ho | (simp at ho; done) | skip
      · simp [retC, V.pure] at h3; exact absurd h3 ((tyV_pure t _ v' h2).2 _)
      · simp [retC, V.pure] at h3
    · intro o ho
      cases v <;> simp [ownN] at ho
  | g τ =>
    simp only [resD] at h
    split at h <;> try (cases h; done)
    · rename_i cs
      split at h <;> try (cases h; done)
      rename_i v0 g hg
      simp only [Option.some.injEq, Prod.mk.injEq] at h
      obtain ⟨rfl, rfl, rfl⟩ := h
      simp only [XV] at hv
      obtain ⟨vs, rfl, e2⟩ := hv
      obtain ⟨vs', h1, h2⟩ := srowD_ok (F := fun p => p ∈ f) R τ hg e2 (fun p hp => hp)
      obtain ⟨h3, h4⟩ := pureCs_retCs h1
      exact ⟨.v (.agg vs'), ⟨vs', rfl, h2⟩, h3, fun o ho => h4 o ho, fun o ho => by simp [ownN, mkAgg] at ho⟩
    · rename_i cs
      split at h <;> try (cases h; done)
      rename_i v0 hg
      simp only [Option.some.injEq, Prod.mk.injEq] at h
      obtain ⟨rfl, rfl, rfl⟩ := h
      simp only [XV] at hv
      obtain ⟨vs, rfl, e2⟩ := hv
      have h2 := rowD_ok τ cs _ vs hg e2
      refine ⟨.v (.agg vs), ⟨vs, rfl, h2⟩, .inl rfl, fun o ho => ?_, fun o ho => by simp [ownN, mkAgg] at ho⟩
      obtain ⟨_, h4⟩ := pureCs_retCs (rowV_pureC (s := s) (F := fun _ => False) h2)
      exact (h4 o ho).elim
  | o ty es τ =>
    have old : ∀ (p ver : Nat) (xob : XOb) (l : List (RowT τ)), x = .ref p ver → xs.h p = some xob → xob.ver = ver → (∀ ob, XObV ⟨xs.c, xs.h, s.h⟩ xob ob → ob.ty = ty ∧ ob.es = es ∧ ob.imp = false ∧ RowsV τ l ob.rows) →
        ∃ rd, ResV (.o ty es τ) l rd ∧ retX s.h v rd ∧ (∀ o ∈ frzN v rd, o ∈ ([] : List Nat)) ∧ (∀ o, ownN v rd = some o → [p] = [o]) := by
      intro p ver xob l hi hp hver hob
      rw [hi] at hv
      obtain ⟨xob2, ob, h1, h2, h3, h4, rfl⟩ := cur_ref (H := ⟨xs.c, xs.h, s.h⟩) R.h hv (by unfold curO; simp only; rw [hp]; simp only; rw [hver]; exact Nat.beq_refl _)
      simp only at h1 h3
      rw [hp] at h1; cases h1
      obtain ⟨a1, a2, a3, a4⟩ := hob ob h4
      exact ⟨.o ty es ob.rows, ⟨ob.rows, rfl, a4⟩, ⟨ob, h3, rfl, a1, a2, a3, rfl⟩, fun o ho => by simp [frzN] at ho, fun o ho => by simp [ownN] at ho; rw [ho]⟩
    simp only [resD] at h
    split at h <;> try (cases h; done)
    · simp only [Option.some.injEq, Prod.mk.injEq] at h
      obtain ⟨rfl, rfl, rfl⟩ := h
      simp only [XV] at hv
      subst hv
      exact ⟨.o ty es [], ⟨[], rfl, trivial⟩, rfl, fun o ho => by simp [frzN] at ho, fun o ho => by simp [ownN] at ho⟩
    · rename_i p ver
      split at h <;> try (cases h; done)
      · rename_i v' ty' es' σ l hp
        split at h <;> try (cases h; done)
        rename_i hτ
        obtain ⟨hb, h⟩ := cond_some h
        simp only [Bool.and_eq_true] at hb
        simp only [Option.some.injEq, Prod.mk.injEq] at h
        obtain ⟨rfl, rfl, rfl⟩ := h
        refine old p ver _ _ rfl hp (Nat.eq_of_beq_eq_true hb.1.1) (fun ob hob => ?_)
        obtain ⟨a1, a2, a3, a4⟩ := hob
        exact ⟨by rw [a1]; exact Nat.eq_of_beq_eq_true hb.1.2, by rw [a2]; exact Nat.eq_of_beq_eq_true hb.2, a3, (castL_rows _ hτ _).2 a4⟩
      · rename_i v' ty' es' imp rows hp
        obtain ⟨hb, h⟩ := cond_some h
        simp only [Bool.and_eq_true, Bool.not_eq_true'] at hb
        split at h <;> try (cases h; done)
        rename_i l hl
        simp only [Option.some.injEq, Prod.mk.injEq] at h
        obtain ⟨rfl, rfl, rfl⟩ := h
        refine old p ver _ _ rfl hp (Nat.eq_of_beq_eq_true hb.1.1.1) (fun ob hob => ?_)
        obtain ⟨a1, a2, a3, a4⟩ := hob
        exact ⟨by rw [a1]; exact Nat.eq_of_beq_eq_true hb.1.1.2, by rw [a2]; exact Nat.eq_of_beq_eq_true hb.1.2, by rw [a3]; exact hb.2, mapM_rows hl a4⟩

theorem pair4_some {A B : Type} {a : Option (A × List Nat × List Nat)} {b : Option (B × List Nat × List Nat)} {p : A × B} {f own : List Nat} (h : pair4 a b = some (p, f, own)) :
    ∃ f1 f2 s1 s2, a = some (p.1, f1, s1) ∧ b = some (p.2, f2, s2) ∧ f = f1 ++ f2 ∧ own = s1 ++ s2 := by
  unfold pair4 at h
  split at h <;> try (cases h; done)
  split at h <;> try (cases h; done)
  simp only [Option.some.injEq, Prod.mk.injEq] at h
  obtain ⟨rfl, rfl, rfl⟩ := h
  exact ⟨_, _, _, _, rfl, rfl, rfl, rfl⟩

theorem ressD1_ok (R : RS xs s) {A : Type} {g : X → Option (A × List Nat × List Nat)} {Q : A → RD → Prop}
    (hg : ∀ x y f own v, g x = some (y, f, own) → XV ⟨xs.c, xs.h, s.h⟩ x v → ∃ rd, Q y rd ∧ retX s.h v rd ∧ (∀ o ∈ frzN v rd, o ∈ f) ∧ (∀ o, ownN v rd = some o → own = [o])) :
    ∀ (ks : List RK) (l : List X) (y : ResT.ResT1 A ks) (f own : List Nat) (vs : List V), ressD1 xs.h g ks l = some (y, f, own) → XVs ⟨xs.c, xs.h, s.h⟩ l vs →
      ∃ rds, RessV1 Q ks y rds ∧ retL s.h vs rds ∧ (∀ o ∈ frzs vs rds, o ∈ f) ∧ ((owns vs rds).filterMap id).Sublist own
  | [], l, y, f, own, vs, h, hv => by
    match l, h, hv with
    | [x], h, hv =>
      have h : g x = some (y, f, own) := h
      simp only [XVs] at hv
      obtain ⟨v, r, rfl, h1, rfl⟩ := hv
      obtain ⟨rd, h2, h3, h4, h5⟩ := hg x y f own v h h1
      refine ⟨[rd], by simp only [RessV1]; exact ⟨rd, rfl, h2⟩, ⟨h3, trivial⟩, fun o ho => h4 o (by simpa [frzs] using ho), ?_⟩
      simp only [owns]
      cases ho : ownN v rd with
      | none => simp [owns]
      | some p => rw [h5 p ho]; simp [owns]
  | k :: ks, l, y, f, own, vs, h, hv => by
    match l, h, hv with
    | x :: r, h, hv =>
      have h : pair4 (g x) (ressD1 xs.h (resD xs.h k) ks r) = some (y, f, own) := h
      obtain ⟨f1, f2, s1, s2, h1, h2, rfl, rfl⟩ := pair4_some h
      simp only [XVs] at hv
      obtain ⟨v, r', rfl, h3, h4⟩ := hv
      obtain ⟨rd, k2, k3, k4, k5⟩ := hg x _ f1 s1 v h1 h3
      obtain ⟨rds, m2, m3, m4, m5⟩ := ressD1_ok R (fun x y f own v => resD_ok R k) ks r _ f2 s2 r' h2 h4
      refine ⟨rd :: rds, by simp only [RessV1]; exact ⟨rd, rds, rfl, k2, m2⟩, ⟨k3, m3⟩, fun o ho => ?_, ?_⟩
      · simp only [frzs, List.mem_append] at ho
        rcases ho with ho | ho
        · exact List.mem_append_left _ (k4 o ho)
        · exact List.mem_append_right _ (m4 o ho)
      · simp only [owns]
        cases ho : ownN v rd with
        | none => simpa using m5.trans (List.sublist_append_right s1 s2)
        | some p =>
          rw [k5 p ho]
          simpa using m5

theorem ressD_ok (R : RS xs s) (ks : List RK) (l : List X) (y : ResT ks) (f own : List Nat) (vs : List V) (h : ressD xs.h ks l = some (y, f, own)) (hv : XVs ⟨xs.c, xs.h, s.h⟩ l vs) :
      ∃ rds, RessV ks y rds ∧ retL s.h vs rds ∧ (∀ o ∈ frzs vs rds, o ∈ f) ∧ ((owns vs rds).filterMap id).Sublist own := by
  cases ks with
  | nil =>
    match l, h, hv with
    | [], h, hv => simp only [XVs] at hv; subst hv; exact ⟨[], by simp only [RessV], trivial, fun o ho => by simp [frzs] at ho, by simp [owns]⟩
  | cons k ks =>
    simp only [RessV]
    exact ressD1_ok R (fun x y f own v => resD_ok R k) ks l y f own vs h hv

theorem finR_ex {P : Program} : ∀ (rs : List ResultVar) {α : Type} (K : α → List V → Prop), finR P s rs (fun xs => ∃ a, K a xs) → ∃ a, finR P s rs (K a)
  | [], α, K, h => h
  | .tmp t :: r, α, K, h => finR_ex r (fun a xs => K a (s.ev (.tmp t) :: xs)) h
  | .cell p ty :: r, α, K, h => by
    obtain ⟨h0, h⟩ := h
    split at h <;> try (exact h.elim)
    rename_i q v hq
    obtain ⟨h1, h2⟩ := h
    obtain ⟨a, ha⟩ := finR_ex r (fun a xs => K a (v :: xs)) h2
    refine ⟨a, h0, ?_⟩
    rw [hq]
    exact ⟨h1, ha⟩

theorem finR_and {P : Program} {A : Prop} : ∀ (rs : List ResultVar) (K : List V → Prop), finR P s rs (fun xs => A ∧ K xs) → A ∧ finR P s rs K
  | [], K, h => h
  | .tmp t :: r, K, h => finR_and r (fun xs => K (s.ev (.tmp t) :: xs)) h
  | .cell p ty :: r, K, h => by
    obtain ⟨h0, h⟩ := h
    split at h <;> try (exact h.elim)
    rename_i q v hq
    obtain ⟨h1, h2⟩ := h
    obtain ⟨a, b⟩ := finR_and r (fun xs => K (v :: xs)) h2
    refine ⟨a, h0, ?_⟩
    rw [hq]
    exact ⟨h1, b⟩

theorem Kret_ok {P : Program} (R : RS xs s) {rs : List ResultVar} {rk : List RK} {r : ResT rk} (h : Kret P rs rk xs = some r) : ∃ rds, RessV rk r rds ∧ RetOK P rs rds s := by
  unfold Kret at h
  split at h <;> try (cases h; done)
  rename_i l hl
  split at h <;> try (cases h; done)
  rename_i r' f own hg
  obtain ⟨hb, h⟩ := cond_some h
  have := Option.some.inj h
  subst this
  simp only [Bool.and_eq_true] at hb
  have h1 := resVars_ok R rs l hl (fun vs => ∃ rds, RessV rk r' rds ∧ (retL s.h vs rds ∧ ((owns vs rds).filterMap id).Nodup ∧ ∀ o ∈ frzs vs rds, o ∉ (owns vs rds).filterMap id)) (fun vs hvs => by
    obtain ⟨rds, k1, k2, k3, k4⟩ := ressD_ok R rk l r' f own vs hg hvs
    refine ⟨rds, k1, k2, (nodupN_ok hb.1).sublist k4, fun o ho hm => ?_⟩
    have h2 := List.all_eq_true.1 hb.2 o (k3 o ho)
    simp only [Bool.not_eq_true'] at h2
    rw [memN_iff.2 (k4.subset hm)] at h2
    cases h2)
  obtain ⟨rds, h2⟩ := finR_ex rs _ h1
  obtain ⟨h3, h4⟩ := finR_and rs _ h2
  exact ⟨rds, h3, h4⟩
end

/-! ### The beginning -/
def argX : (k : AK) → k.T → X
  | .c t, x => cellX t x
  | .g τ, x => .agg false (rowX τ x)
  | .rd τ, l => .rd τ l
  | .cp τ, x => .cp (rowX τ x) 0
  | .fn f caps, x => .fn f (capX caps x)
  | .raw v, _ => X.ofCell v
def argsX1 {A : Type} (f : A → X) : (ks : List AK) → ArgT.ArgT1 A ks → List X
  | [], x => [f x]
  | k :: ks, x => f (Prod.fst x) :: argsX1 (argX k) ks (Prod.snd x)
def argsX : (ks : List AK) → ArgT ks → List X
  | [], _ => []
  | k :: ks, x => argsX1 (argX k) ks x
def nthX : List X → Nat → X
  | [], _ => .tup []
  | x :: _, 0 => x
  | _ :: r, i + 1 => nthX r i
theorem nthX_eq : ∀ (l : List X) (i : Nat), nthX l i = (l[i]?).getD (.tup [])
  | [], i => by simp [nthX]
  | x :: r, 0 => by simp [nthX]
  | x :: r, i + 1 => by simp [nthX, nthX_eq r i]
def initX (ad : List AK) (a : ArgT ad) : XSt := ⟨fun i => nthX (argsX ad a) i, fun _ => none, 0⟩

theorem argX_ok {H : Hps} (k : AK) (x : k.T) (v : V) (h : ArgV k x v) : XV H (argX k x) v := by
  cases k with
  | c t => exact cell_xv t x v h
  | g τ => obtain ⟨row, rfl, h⟩ := h; simp only [argX, XV]; exact ⟨row, rfl, row_xv τ x row h⟩
  | rd τ => obtain ⟨rows, rfl, h⟩ := h; simp only [argX, XV]; exact ⟨rows, rfl, h⟩
  | cp τ => obtain ⟨row, rfl, h⟩ := h; simp only [argX, XV]; exact ⟨row, rfl, row_xv τ x row h⟩
  | fn f caps =>
    obtain ⟨vs, rfl, h⟩ := h
    obtain ⟨h1, h2⟩ := capX_ok (H := H) caps x vs h
    simp only [argX, XV]
    exact ⟨h2, fun _ => ⟨vs, rfl, h1⟩⟩
  | raw u =>
    simp only [ArgV] at h
    subst h
    exact xofCell u

theorem argsX_ok {H : Hps} (ks : List AK) (x : ArgT ks) (vs : List V) (h : ArgsV ks x vs) : XVs H (argsX ks x) vs := by
  have key : ∀ (ks : List AK) {A : Type} (f : A → X) (R : A → V → Prop), (∀ x v, R x v → XV H (f x) v) → ∀ (x : ArgT.ArgT1 A ks) (vs : List V), ArgsV1 R ks x vs → XVs H (argsX1 f ks x) vs := by
    intro ks
    induction ks with
    | nil =>
      intro A f R hf x vs h
      simp only [ArgsV1] at h
      obtain ⟨v, rfl, hv⟩ := h
      simp only [argsX1, XVs]
      exact ⟨v, [], rfl, hf _ _ hv, rfl⟩
    | cons k ks ih =>
      intro A f R hf x vs h
      simp only [ArgsV1] at h
      obtain ⟨v, r, rfl, hv, hr⟩ := h
      simp only [argsX1, XVs]
      exact ⟨v, r, rfl, hf _ _ hv, ih (argX k) (ArgV k) (argX_ok k) _ r hr⟩
  cases ks with
  | nil => simp only [ArgsV] at h; subst h; simp only [argsX, XVs]
  | cons k ks => simp only [ArgsV] at h; exact key ks _ _ (argX_ok k) x vs h

theorem initX_ok (ad : List AK) (a : ArgT ad) (vs : List V) (h : ArgsV ad a vs) : RS (initX ad a) (initS vs) := by
  refine ⟨fun i => ?_, fun o xob h => by cases h⟩
  have h1 := argsX_ok (H := ⟨0, fun _ => none, (initS vs).h⟩) ad a vs h
  show XV ⟨0, fun _ => none, (initS vs).h⟩ (nthX (argsX ad a) i) ((vs[i]?).getD (.tup []))
  rw [nthX_eq]
  cases hi : (argsX ad a)[i]? with
  | none =>
    have hl := h1.len
    have : vs[i]? = none := by
      rw [List.getElem?_eq_none_iff] at hi ⊢
      omega
    rw [this]
    simp only [Option.getD_none, XV]
    exact ⟨[], rfl, by simp [XVs]⟩
  | some x =>
    obtain ⟨v, e1, e2⟩ := h1.at i x hi
    rw [e1]
    exact e2

/-! ### A function, run -/
def enterX : List XI → List XI
  | .head body :: k => .code body :: .head body :: k
  | k => k
def labOf : List XI → Nat
  | .inBlock id :: _ => id
  | _ :: k => labOf k
  | [] => 0

def isU (d : LD) : Bool := match d.als with
  | [(0, 0)] => true
  | _ => false
def unrX {β : Type} (C : Cfg) (Lt : Nat → LD) (Kr : XSt → Option β) (Kg : List XI → XSt → Option β) : Nat → List XI → XSt → Option β
  | 0 => fun _ _ => none
  | n + 1 => fun k s => exec C Kr (fun k' s' => bif isU (Lt (labOf k')) then unrX C Lt Kr Kg n k' s' else Kg k' s') 100000 (enterX k) s
def cutKg {β : Type} (Lt : Nat → LD) (R : List XI → XSt → Option β) (k' : List XI) (s' : XSt) : Option β := match (Lt (labOf k')).get s' with
  | some x => R k' ((Lt (labOf k')).mk' x)
  | none => none
def allKg {β : Type} (C : Cfg) (Lt : Nat → LD) (Kr : XSt → Option β) (R : List XI → XSt → Option β) (k' : List XI) (s' : XSt) : Option β :=
  bif isU (Lt (labOf k')) then unrX C Lt Kr (cutKg Lt R) 4 k' s' else cutKg Lt R k' s'
def runX {β : Type} (C : Cfg) (Lt : Nat → LD) (Kr : XSt → Option β) : Nat → List XI → XSt → Option β
  | 0 => fun _ _ => none
  | f + 1 => fun k s => exec C Kr (allKg C Lt Kr (runX C Lt Kr f)) 100000 (enterX k) s

section
variable {β : Type} {C : Cfg} {Lt : Nat → LD} {r : β} {w0 : World} {I : Imp} {A0 : Nat → Prop} {Rt : Act → World → Prop}

theorem enter_sound (hI : (∀ b, ¬ I.P b) ∨ C.fz = []) (hil : C.inl = [] ∨ ((∀ b, ¬ I.P b) ∧ ∀ o, ¬ I.q o)) (hm : C.P.follows .mixedOrders = true) (hes : (∀ e ∈ C.es, e.Ok C.P) ∧ (∀ e ∈ C.el, e.Ok C.P) ∧ ∀ d ∈ C.inl, d.Ok C.P) {Kr : XSt → Option β} (hKr : ∀ xs s, RS xs s → Kr xs = some r → ∀ a w, RR w0 I A0 C.n s a w → Rt a w)
    {Kg : List XI → XSt → Option β} (hKg : ∀ k xs s, RS xs s → okIt C.pm k → noD k → Kg k xs = some r → ∀ a w, RR w0 I A0 C.n s a w → KW C.P Rt k .normal a w)
    (k : List XI) (xs : XSt) (s : St) (R : RS xs s) (hok : okIt C.pm k) (hnd : noD k) (h : exec C Kr Kg 100000 (enterX k) xs = some r) : ∀ a w, RR w0 I A0 C.n s a w → KW C.P Rt k .normal a w := by
    have hok' : okIt C.pm (enterX k) := by
      cases k with
      | nil => exact hok
      | cons i k => cases i <;> first | exact hok | exact ⟨hok.1, hok⟩
    have hnd' : noD (enterX k) := by
      cases k with
      | nil => exact hnd
      | cons i k => cases i <;> exact hnd
    have hndt : noDt (enterX k) := by
      cases hk : enterX k with
      | nil => trivial
      | cons i k' =>
        rw [hk] at hnd'
        cases i <;> first | exact hnd' | exact hnd'.elim
    have h1 := exec_sound (w0 := w0) (I := I) (A0 := A0) (Rt := Rt) hI hil hm hes.1 hes.2.1 hes.2.2 hKr hKg 100000 (enterX k) xs s R hok' hndt h
    intro a w hR
    have h2 := (SX_noD hnd').1 h1 a w hR
    cases k with
    | nil => exact h2
    | cons i k =>
      cases i <;> try exact h2
      rename_i body
      refine headwp_body (wp_mono h2 ?_)
      intro e a' w' hq
      rcases KW_other hq with rfl | rfl | ⟨id, rfl⟩
      · exact hq
      · simp only [Exit.then]; rw [KW_ret] at hq ⊢; exact hq
      · exact hq

theorem unrX_sound (hI : (∀ b, ¬ I.P b) ∨ C.fz = []) (hil : C.inl = [] ∨ ((∀ b, ¬ I.P b) ∧ ∀ o, ¬ I.q o)) (hm : C.P.follows .mixedOrders = true) (hes : (∀ e ∈ C.es, e.Ok C.P) ∧ (∀ e ∈ C.el, e.Ok C.P) ∧ ∀ d ∈ C.inl, d.Ok C.P) {Kr : XSt → Option β} (hKr : ∀ xs s, RS xs s → Kr xs = some r → ∀ a w, RR w0 I A0 C.n s a w → Rt a w)
    {Kg : List XI → XSt → Option β} (hKg : ∀ k xs s, RS xs s → okIt C.pm k → noD k → Kg k xs = some r → ∀ a w, RR w0 I A0 C.n s a w → KW C.P Rt k .normal a w) :
    ∀ (n : Nat) (k : List XI) (xs : XSt) (s : St), RS xs s → okIt C.pm k → noD k → unrX C Lt Kr Kg n k xs = some r → ∀ a w, RR w0 I A0 C.n s a w → KW C.P Rt k .normal a w
  | 0, k, xs, s, _, _, _, h => by cases h
  | n + 1, k, xs, s, R, hok, hnd, h => enter_sound hI hil hm hes hKr (fun k' xs' s' R' ho' hn' h' a w hR => by
      cases hb : isU (Lt (labOf k')) with
      | true => rw [hb] at h'; exact unrX_sound hI hil hm hes hKr hKg n k' xs' s' R' ho' hn' h' a w hR
      | false => rw [hb] at h'; exact hKg k' xs' s' R' ho' hn' h' a w hR) k xs s R hok hnd h

theorem runX_sound (hI : (∀ b, ¬ I.P b) ∨ C.fz = []) (hil : C.inl = [] ∨ ((∀ b, ¬ I.P b) ∧ ∀ o, ¬ I.q o)) (hL : ∀ b, LnI I (Lt b).ln) (hm : C.P.follows .mixedOrders = true) (hes : (∀ e ∈ C.es, e.Ok C.P) ∧ (∀ e ∈ C.el, e.Ok C.P) ∧ ∀ d ∈ C.inl, d.Ok C.P) {Kr : XSt → Option β} (hKr : ∀ xs s, RS xs s → Kr xs = some r → ∀ a w, RR w0 I A0 C.n s a w → Rt a w) (f : Nat) :
    ∀ (k : List XI) (xs : XSt) (s : St), RS xs s → okIt C.pm k → noD k → runX C Lt Kr f k xs = some r → ∀ a w, RR w0 I A0 C.n s a w → KW C.P Rt k .normal a w := by
  induction f with
  | zero => intro k xs s _ _ _ h; cases h
  | succ f ih =>
    intro k xs s R hok hnd h
    have base : ∀ (k' : List XI) (xs' : XSt) (s' : St), RS xs' s' → okIt C.pm k' → noD k' → cutKg Lt (runX C Lt Kr f) k' xs' = some r → ∀ a w, RR w0 I A0 C.n s' a w → KW C.P Rt k' .normal a w := fun k' xs' s' R' ho' hn' h' a w hR => by
      unfold cutKg at h'
      split at h' <;> try (cases h'; done)
      rename_i x hx
      obtain ⟨s2, R2, hR2⟩ := LD.get_ok _ R' hx (hL _) hR
      exact ih k' _ s2 R2 ho' hn' h' a w hR2
    exact enter_sound hI hil hm hes hKr (Kg := allKg C Lt Kr (runX C Lt Kr f)) (fun k' xs' s' R' ho' hn' h' a w hR => by
      unfold allKg at h'
      cases hb : isU (Lt (labOf k')) with
      | true => rw [hb] at h'; exact unrX_sound hI hil hm hes hKr base 4 k' xs' s' R' ho' hn' h' a w hR
      | false => rw [hb] at h'; exact base k' xs' s' R' ho' hn' h' a w hR) k xs s R hok hnd h
end

theorem argsV_len (ks : List AK) (x : ArgT ks) (vs : List V) (h : ArgsV ks x vs) : vs.length = ks.length := by
  have h1 := (argsX_ok (H := ⟨0, fun _ => none, fun _ => none⟩) ks x vs h).len
  have key : ∀ (ks : List AK) (A : Type) (f : A → X) (x : ArgT.ArgT1 A ks), (argsX1 f ks x).length = ks.length + 1 := by
    intro ks
    induction ks with
    | nil => intro A f x; rfl
    | cons k ks ih => intro A f x; simp only [argsX1, List.length_cons]; rw [ih]
  rw [h1]
  cases ks with
  | nil => rfl
  | cons k ks => exact key ks _ _ x

theorem resOK (ks : List RK) (r : ResT ks) (rds : List RD) (h : RessV ks r rds) : ∀ rd ∈ rds, rd.ok = true := by
  have one : ∀ (k : RK) (x : k.T) (rd : RD), ResV k x rd → rd.ok = true := by
    intro k x rd h
    cases k with
    | v t => obtain ⟨y, rfl, hy⟩ := h; exact (tyV_pure t x y hy).1
    | g τ => obtain ⟨row, rfl, _⟩ := h; rfl
    | o ty es τ => obtain ⟨rows, rfl, _⟩ := h; rfl
  have key : ∀ (ks : List RK) {A : Type} (Q : A → RD → Prop), (∀ x rd, Q x rd → rd.ok = true) → ∀ (x : ResT.ResT1 A ks) (rds : List RD), RessV1 Q ks x rds → ∀ rd ∈ rds, rd.ok = true := by
    intro ks
    induction ks with
    | nil =>
      intro A Q hQ x rds h rd hr
      simp only [RessV1] at h
      obtain ⟨y, rfl, h1⟩ := h
      simp at hr; subst hr
      exact hQ _ _ h1
    | cons k ks ih =>
      intro A Q hQ x rds h rd hr
      simp only [RessV1] at h
      obtain ⟨y, r', rfl, h1, h2⟩ := h
      rcases List.mem_cons.1 hr with rfl | hr
      · exact hQ _ _ h1
      · exact ih (ResV k) (one k) _ r' h2 rd hr
  cases ks with
  | nil => simp only [RessV] at h; subst h; intro rd hr; cases hr
  | cons k ks => simp only [RessV] at h; exact key ks _ (one k) r rds h

theorem fnX_ok {C : Cfg} {Lt : Nat → LD} {g : FuncId} {fn : Func} {c : Code} {rs : List ResultVar} (ad : List AK) (rk : List RK) (hm : C.P.follows .mixedOrders = true) (hes : (∀ e ∈ C.es, e.Ok C.P) ∧ (∀ e ∈ C.el, e.Ok C.P) ∧ ∀ d ∈ C.inl, d.Ok C.P)
    (hf : C.P.funcs[g]? = some fn) (hb : fn.body = some c) (hn : fn.ntmps = C.n) (hr : fn.results.toList = rs) (hl : Nat.ble ad.length C.n = true) (hc : codeOK C.pm c = true)
    {a : ArgT ad} {r : ResT rk} (f : Nat) (h : runX C Lt (Kret C.P rs rk) f [.code c] (initX ad a) = some r) (vs : List V) (hv : ArgsV ad a vs) : FnP C.P g vs (RessV rk r) := by
  subst hr
  refine fnP_intro hf hb (by rw [argsV_len ad a vs hv, hn]; exact Nat.le_of_ble_eq_true hl) (fun rds h => resOK rk r rds h) (fun w0 A0 a0 w hR => ?_)
  rw [hn] at hR ⊢
  have h1 := runX_sound (w0 := w0) (I := noI) (A0 := A0) (Rt := fun a' w' => ∃ s', (∃ rds, RessV rk r rds ∧ RetOK C.P fn.results.toList rds s') ∧ RR w0 noI A0 C.n s' a' w') (.inl fun _ h => h) (.inr ⟨fun _ h => h, fun _ h => h⟩) (fun _ => .inl ⟨fun _ h => h, fun _ h => h⟩) hm hes
    (fun xs s R h a w hR => ⟨s, Kret_ok R h, hR⟩) f [.code c] _ _ (initX_ok ad a vs hv) ⟨hc, trivial⟩ trivial h a0 w hR
  refine wp_mono (show c.wp C.P _ a0 w from h1) ?_
  intro e a' w' hq
  rcases KW_other hq with rfl | rfl | ⟨id, rfl⟩
  · exact ⟨.inl rfl, hq⟩
  · rw [KW_ret] at hq; exact ⟨.inr rfl, hq⟩
  · exact hq.elim

end Go.AL
