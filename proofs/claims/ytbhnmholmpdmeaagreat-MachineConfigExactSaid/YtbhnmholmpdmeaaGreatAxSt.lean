/-
  THE EXECUTOR, FOURTH PART: symbolic states. By an AI agent.
-/
import Derived.Test.YtbhnmholmpdmeaaGreatAxSim
namespace Go.AL
set_option linter.unusedVariables false
set_option linter.unusedSimpArgs false
set_option linter.unusedSectionVars false

def XOb.setVer (v : Nat) : XOb → XOb
  | .t _ ty es τ l => .t v ty es τ l
  | .u _ ty es imp rows => .u v ty es imp rows

def XSt.put (s : XSt) (d : Option Nat) (x : X) : XSt := match d with
  | some d => ⟨fun i => bif Nat.beq i d then x else s.t i, s.h, s.c⟩
  | none => s
def XSt.new (s : XSt) (d : Nat) (ob : XOb) (x : X) : XSt := ⟨fun i => bif Nat.beq i d then x else s.t i, fun p => bif Nat.beq p d then some ob else s.h p, s.c + 1⟩
def XSt.setOb (s : XSt) (o : Nat) (ob : XOb) : XSt := ⟨s.t, fun p => bif Nat.beq p o then some ob else s.h p, s.c⟩
def XSt.app (s : XSt) (o : Nat) (ob : XOb) : XSt := ⟨s.t, fun p => bif Nat.beq p o then some ob else s.h p, s.c + 1⟩
def mkRef (r : Bool) (d c : Nat) : X := match r with
  | true => .ref d c
  | false => .ptr d c 0 0
def XSt.kill (K : Nat → Bool) (s : XSt) : XSt := ⟨s.t, fun p => bif K p then none else s.h p, s.c⟩

theorem beq_if {α : Type} (a b : Nat) (x y : α) : (bif Nat.beq a b then x else y) = if a = b then x else y := by
  by_cases h : a = b
  · subst h; simp [Nat.beq_refl]
  · have : Nat.beq a b = false := by
      cases hb : Nat.beq a b with
      | false => rfl
      | true => exact absurd (Nat.eq_of_beq_eq_true hb) h
    simp [this, h]

section
variable {xs : XSt} {s : St} (R : RS xs s)
include R

theorem RS.obs (o : Nat) (xob : XOb) (h : xs.h o = some xob) : xob.ver < xs.c ∧ ∃ ob, s.h o = some ob ∧ XObV ⟨xs.c, xs.h, s.h⟩ xob ob := R.h o xob h

theorem RS.putR (d : Option Nat) {x : X} {v : V} (hv : XV ⟨xs.c, xs.h, s.h⟩ x v) : RS (xs.put d x) (s.put d v) := by
  cases d with
  | none => exact R
  | some d =>
    refine ⟨fun i => ?_, R.h⟩
    simp only [XSt.put, St.put, beq_if]
    split
    · exact hv
    · exact R.t i

omit R in
theorem XObV.frame {K : Nat → Bool} {H H' : Hps} (L : HLe K H H') {xob : XOb} {ob : Ob} (h : XObV H xob ob) : XObV H' xob (ob.kill K) := by
  cases xob with
  | t ver ty es τ l =>
    obtain ⟨h1, h2, h3, h4⟩ := h
    have : ob.kill K = ob := by simp [Ob.kill, h3]
    rw [this]
    exact ⟨h1, h2, h3, h4⟩
  | u ver ty es imp rows =>
    obtain ⟨h1, h2, h3, h4⟩ := h
    refine ⟨by rw [Ob.kill_ty]; exact h1, by rw [Ob.kill_es]; exact h2, by rw [Ob.kill_imp]; exact h3, ?_⟩
    unfold Ob.kill
    split
    · have : ∀ {a : List (List X)} {b : List (List V)}, All2 (XVs H) a b → All2 (XVs H') a (b.map (·.map (V.kill1 K))) := by
        intro a
        induction a with
        | nil => intro b h; cases b with
          | nil => trivial
          | cons _ _ => exact h.elim
        | cons x a ih => intro b h; cases b with
          | nil => exact h.elim
          | cons y b => exact ⟨XVs.kill1 L _ _ h.1, ih h.2⟩
      exact this h4
    · exact All2.mono (fun a b h => XVs.frame L a b h) h4

theorem RS.newR (d : Nat) {ob : XOb} {ob' : Ob} (isRef : Bool) (hver : ob.ver = xs.c) (hob : XObV ⟨xs.c, xs.h, s.h⟩ ob ob') (h0 : isRef = false → 0 < ob'.rows.length) :
    RS (xs.new d ob (mkRef isRef d xs.c)) (s.new d ob' (if isRef then .ref d ob'.rows.length else .ptr d ob'.rows.length 0 0)) := by
  have L : HLe (· == d) ⟨xs.c, xs.h, s.h⟩ ⟨xs.c + 1, (xs.new d ob (mkRef isRef d xs.c)).h, (s.new d ob' (if isRef then .ref d ob'.rows.length else .ptr d ob'.rows.length 0 0)).h⟩ := by
    refine ⟨Nat.le_succ _, fun o xob' h1 h2 => ?_⟩
    simp only [XSt.new, beq_if] at h1
    by_cases hd : o = d
    · rw [if_pos hd] at h1; cases h1; simp only at h2; omega
    · rw [if_neg hd] at h1
      refine ⟨by simpa using hd, ⟨xob', h1, rfl⟩, fun ob2 h3 => ⟨ob2.kill (· == d), ?_, by rw [Ob.kill_len]⟩⟩
      simp only [St.new, newH, if_neg hd]
      have : s.h o = some ob2 := h3
      rw [this]; rfl
  refine ⟨fun i => ?_, fun o xob h => ?_⟩
  · simp only [XSt.new, St.new, beq_if]
    by_cases hi : i = d
    · rw [if_pos hi, if_pos hi]
      cases isRef <;> simp only [mkRef]
      · simp only [XV]
        refine ⟨Nat.lt_succ_self _, fun xob h1 _ => ?_⟩
        simp at h1
        exact ⟨ob'.kill (· == d), by simp [newH], by rw [Ob.kill_len]; exact h0 rfl, by simp [Ob.kill_len]⟩
      · simp only [XV]
        refine ⟨Nat.lt_succ_self _, fun xob h1 _ => ⟨ob'.kill (· == d), by simp [newH], by simp [Ob.kill_len]⟩⟩
    · rw [if_neg hi, if_neg hi]
      have := (R.t i).kill L
      simp only [XSt.new, St.new, beq_if] at this
      exact this
  · have h' := h
    simp only [XSt.new, beq_if] at h
    by_cases ho : o = d
    · rw [if_pos ho] at h
      cases h
      subst ho
      refine ⟨by show ob.ver < xs.c + 1; omega, ob'.kill (· == o), by simp [St.new, newH], hob.frame L⟩
    · rw [if_neg ho] at h
      obtain ⟨h1, ob2, h2, h3⟩ := R.h o xob h
      refine ⟨by show xob.ver < xs.c + 1; omega, ob2.kill (· == d), by simp [St.new, newH, ho, h2], h3.frame L⟩

theorem RS.setR (o : Nat) {ob : XOb} {ob' : Ob} {xob0 : XOb} {ob0 : Ob} (hx : xs.h o = some xob0) (hv : s.h o = some ob0) (hver : ob.ver = xob0.ver) (hlen : ob'.rows.length = ob0.rows.length) (hob : XObV ⟨xs.c, xs.h, s.h⟩ ob ob') (d : Option Nat) :
    RS ((xs.setOb o ob).put d .dead) ((s.setOb o ob').put d .dead) := by
  have L : HLe (fun _ => false) ⟨xs.c, xs.h, s.h⟩ ⟨xs.c, (xs.setOb o ob).h, (s.setOb o ob').h⟩ := by
    refine ⟨Nat.le_refl _, fun p xob' h1 h2 => ⟨rfl, ?_, fun ob2 h3 => ?_⟩⟩
    · simp only [XSt.setOb, beq_if] at h1
      by_cases hp : p = o
      · rw [if_pos hp] at h1; cases h1; subst hp; exact ⟨xob0, hx, hver.symm⟩
      · rw [if_neg hp] at h1; exact ⟨xob', h1, rfl⟩
    · simp only [St.setOb, setH]
      by_cases hp : p = o
      · rw [if_pos hp]; subst hp; simp only at h3; rw [hv] at h3; cases h3; exact ⟨ob', rfl, hlen⟩
      · rw [if_neg hp]; exact ⟨ob2, h3, rfl⟩
  have R1 : RS (xs.setOb o ob) (s.setOb o ob') := by
    refine ⟨fun i => XV.frame L _ _ (R.t i), fun p xob h => ?_⟩
    have h' := h
    simp only [XSt.setOb, beq_if] at h
    by_cases hp : p = o
    · rw [if_pos hp] at h; cases h; subst hp
      refine ⟨by show ob.ver < xs.c; rw [hver]; exact (R.h p xob0 hx).1, ob', by simp [St.setOb, setH], ?_⟩
      have := hob.frame L
      rw [Ob.kill_none] at this; exact this
    · rw [if_neg hp] at h
      obtain ⟨h1, ob2, h2, h3⟩ := R.h p xob h
      refine ⟨h1, ob2, by simp [St.setOb, setH, hp, h2], ?_⟩
      have := h3.frame L
      rw [Ob.kill_none] at this; exact this
  exact R1.putR d (by simp only [XV])

theorem RS.appR (o : Nat) {ob : XOb} {ob' : Ob} (hver : ob.ver = xs.c) (hob : XObV ⟨xs.c, xs.h, s.h⟩ ob ob') (d : Option Nat) :
    RS ((xs.app o ob).put d (.ref o xs.c)) ((s.setOb o ob').put d (.ref o ob'.rows.length)) := by
  have L : HLe (fun _ => false) ⟨xs.c, xs.h, s.h⟩ ⟨xs.c + 1, (xs.app o ob).h, (s.setOb o ob').h⟩ := by
    refine ⟨Nat.le_succ _, fun p xob' h1 h2 => ?_⟩
    simp only [XSt.app, beq_if] at h1
    by_cases hp : p = o
    · rw [if_pos hp] at h1; cases h1; simp only at h2; omega
    · rw [if_neg hp] at h1
      exact ⟨rfl, ⟨xob', h1, rfl⟩, fun ob2 h3 => ⟨ob2, by simp only [St.setOb, setH]; rw [if_neg hp]; exact h3, rfl⟩⟩
  have R1 : RS (xs.app o ob) (s.setOb o ob') := by
    refine ⟨fun i => XV.frame L _ _ (R.t i), fun p xob h => ?_⟩
    have h' := h
    simp only [XSt.app, beq_if] at h
    by_cases hp : p = o
    · rw [if_pos hp] at h; cases h; subst hp
      refine ⟨by show ob.ver < xs.c + 1; omega, ob', by simp [St.setOb, setH], ?_⟩
      have := hob.frame L
      rw [Ob.kill_none] at this; exact this
    · rw [if_neg hp] at h
      obtain ⟨h1, ob2, h2, h3⟩ := R.h p xob h
      refine ⟨by show xob.ver < xs.c + 1; omega, ob2, by simp [St.setOb, setH, hp, h2], ?_⟩
      have := h3.frame L
      rw [Ob.kill_none] at this; exact this
  refine R1.putR d ?_
  simp only [XV]
  refine ⟨Nat.lt_succ_self _, fun xob h1 _ => ⟨ob', by simp [St.setOb, setH], rfl⟩⟩

theorem RS.killR (K : Nat → Bool) : RS (xs.kill K) (s.kill K) := by
  have L : HLe K ⟨xs.c, xs.h, s.h⟩ ⟨xs.c, (xs.kill K).h, (s.kill K).h⟩ := by
    refine ⟨Nat.le_refl _, fun p xob' h1 h2 => ?_⟩
    simp only [XSt.kill] at h1
    cases hK : K p with
    | true => rw [hK] at h1; cases h1
    | false =>
      rw [hK] at h1
      refine ⟨rfl, ⟨xob', h1, rfl⟩, fun ob2 h3 => ⟨ob2.kill K, ?_, by rw [Ob.kill_len]⟩⟩
      simp only [St.kill, hK]
      simp only at h3
      rw [h3]; rfl
  refine ⟨fun i => (R.t i).kill L, fun p xob h => ?_⟩
  have h' := h
  simp only [XSt.kill] at h
  cases hK : K p with
  | true => rw [hK] at h; cases h
  | false =>
    rw [hK] at h
    obtain ⟨h1, ob2, h2, h3⟩ := R.h p xob h
    exact ⟨h1, ob2.kill K, by simp [St.kill, hK, h2], h3.frame L⟩

end

/-! ### Results of a call -/
inductive RK where
  | v (t : Ty)
  | g (τ : List Ty)
  | o (ty es : Nat) (τ : List Ty)

def RK.T : RK → Type
  | .v t => t.T
  | .g τ => RowT τ
  | .o _ _ τ => List (RowT τ)
def ResT : List RK → Type
  | [] => Unit
  | k :: ks => ResT1 k.T ks
where
  ResT1 (A : Type) : List RK → Type
  | [] => A
  | k :: ks => A × ResT1 k.T ks

def ResV : (k : RK) → k.T → RD → Prop
  | .v t, x, rd => ∃ y, rd = .v y ∧ TyV t x y
  | .g τ, x, rd => ∃ row, rd = .v (.agg row) ∧ RowV τ x row
  | .o ty es τ, l, rd => ∃ rows, rd = .o ty es rows ∧ RowsV τ l rows
def RessV1 {A : Type} (f : A → RD → Prop) : (ks : List RK) → ResT.ResT1 A ks → List RD → Prop
  | [], x, rds => ∃ rd, rds = [rd] ∧ f x rd
  | k :: ks, x, rds => ∃ rd r, rds = rd :: r ∧ f (Prod.fst x) rd ∧ RessV1 (ResV k) ks (Prod.snd x) r
def RessV : (ks : List RK) → ResT ks → List RD → Prop
  | [], _, rds => rds = []
  | k :: ks, x, rds => RessV1 (ResV k) ks x rds

def resX (c d : Nat) : (k : RK) → k.T → X
  | .v t, x => cellX t x
  | .g τ, x => .agg false (rowX τ x)
  | .o _ _ _, _ => .ref d c
def resO (c : Nat) : (k : RK) → k.T → Option XOb
  | .v _, _ => none
  | .g _, _ => none
  | .o ty es τ, l => some (.t c ty es τ l)
def resXs1 {A : Type} (c d : Nat) (f : Nat → A → X) : (ks : List RK) → ResT.ResT1 A ks → List X
  | [], x => [f d x]
  | k :: ks, x => f d (Prod.fst x) :: resXs1 c (d + 1000) (fun d => resX c d k) ks (Prod.snd x)
def resXs (c d : Nat) : (ks : List RK) → ResT ks → List X
  | [], _ => []
  | k :: ks, x => resXs1 c d (fun d => resX c d k) ks x
def resOs1 {A : Type} (c : Nat) (f : A → Option XOb) : (ks : List RK) → ResT.ResT1 A ks → List (Option XOb)
  | [], x => [f x]
  | k :: ks, x => f (Prod.fst x) :: resOs1 c (resO c k) ks (Prod.snd x)
def resOs (c : Nat) : (ks : List RK) → ResT ks → List (Option XOb)
  | [], _ => []
  | k :: ks, x => resOs1 c (resO c k) ks x

def packX : List X → X
  | [x] => x
  | xs => .tup xs

def hCall (h : Nat → Option XOb) : Nat → List (Option XOb) → Nat → Option XOb
  | _, [] => h
  | d, ob :: obs => fun p => bif Nat.beq p d then ob else hCall h (d + 1000) obs p

def XSt.call (s : XSt) (dst : Option Nat) (ks : List RK) (r : ResT ks) : XSt := match dst with
  | some d => ⟨fun i => bif Nat.beq i d then packX (resXs s.c d ks r) else s.t i, hCall s.h d (resOs s.c ks r), s.c + 1⟩
  | none => s

/-! ### A call's results, related -/
def ResIn (H' : Hps) (d : Nat) (rds : List RD) : Prop := ∀ (k : Nat) (rd : RD) (ob : Ob), rds[k]? = some rd → rd.ob = some ob → H'.v (d + 1000 * k) = some ob

theorem xvs_set {H : Hps} : ∀ {cs : List X} {vs : List V} {j : Nat} {x : X} {v : V}, XVs H cs vs → XV H x v → XVs H (cs.set j x) (vs.set j v)
  | [], vs, j, x, v, h, hx => by simp only [XVs] at h; subst h; simp only [List.set_nil, XVs]
  | y :: cs, vs, 0, x, v, h, hx => by
    simp only [XVs] at h
    obtain ⟨u, r, rfl, h1, h2⟩ := h
    simp only [List.set_cons_zero, XVs]
    exact ⟨v, r, rfl, hx, h2⟩
  | y :: cs, vs, j + 1, x, v, h, hx => by
    simp only [XVs] at h
    obtain ⟨u, r, rfl, h1, h2⟩ := h
    simp only [List.set_cons_succ, XVs]
    exact ⟨u, r.set j v, rfl, h1, xvs_set h2 hx⟩

theorem res_xv {H' : Hps} {c d : Nat} (hc : c < H'.c) (k : RK) (x : k.T) (rd : RD) (h : ResV k x rd) (ho : ∀ ob, rd.ob = some ob → H'.v d = some ob) : XV H' (resX c d k x) (rd.val d) := by
  cases k with
  | v t =>
    obtain ⟨y, rfl, hy⟩ := h
    exact cell_xv t x y hy
  | g τ =>
    obtain ⟨row, rfl, hy⟩ := h
    simp only [resX, RD.val, XV]
    exact ⟨row, rfl, row_xv τ x row hy⟩
  | o ty es τ =>
    obtain ⟨rows, rfl, hy⟩ := h
    simp only [resX, RD.val, XV]
    exact ⟨hc, fun xob _ _ => ⟨_, ho _ rfl, rfl⟩⟩

theorem ress1_xvs {H' : Hps} {A : Type} {c : Nat} (hc : c < H'.c) {f : A → RD → Prop} {g : Nat → A → X} (hf : ∀ d x rd, f x rd → (∀ ob, rd.ob = some ob → H'.v d = some ob) → XV H' (g d x) (rd.val d)) :
    ∀ (ks : List RK) (x : ResT.ResT1 A ks) (rds : List RD) (d : Nat), RessV1 f ks x rds → ResIn H' d rds → XVs H' (resXs1 c d g ks x) (rdVals d rds)
  | [], x, rds, d, h, ho => by
    simp only [RessV1] at h
    obtain ⟨rd, rfl, h1⟩ := h
    simp only [resXs1, rdVals, XVs]
    exact ⟨_, _, rfl, hf d x rd h1 (fun ob e => by have := ho 0 rd ob rfl e; simpa using this), rfl⟩
  | k :: ks, x, rds, d, h, ho => by
    simp only [RessV1] at h
    obtain ⟨rd, r, rfl, h1, h2⟩ := h
    simp only [resXs1, rdVals, XVs]
    refine ⟨_, _, rfl, hf d _ rd h1 (fun ob e => by have := ho 0 rd ob rfl e; simpa using this), ?_⟩
    exact ress1_xvs hc (fun d x rd => res_xv hc k x rd) ks _ r (d + 1000) h2 (fun k rd ob e e2 => by
      have := ho (k + 1) rd ob (by simpa using e) e2
      rwa [show d + 1000 * (k + 1) = d + 1000 + 1000 * k from by omega] at this)

theorem ress_xvs {H' : Hps} {c d : Nat} (hc : c < H'.c) (ks : List RK) (x : ResT ks) (rds : List RD) (h : RessV ks x rds) (ho : ResIn H' d rds) : XVs H' (resXs c d ks x) (rdVals d rds) := by
  cases ks with
  | nil => simp only [RessV] at h; subst h; simp [resXs, rdVals, XVs]
  | cons k ks =>
    simp only [RessV] at h
    exact ress1_xvs hc (fun d x rd => res_xv hc k x rd) ks x rds d h ho

theorem pack_xv {H' : Hps} {xs : List X} {vs : List V} (h : XVs H' xs vs) : XV H' (packX xs) (packA vs) := by
  match xs, h with
  | [], h => simp only [XVs] at h; subst h; simp only [packX, packA, XV]; exact ⟨[], rfl, by simp [XVs]⟩
  | [x], h =>
    simp only [XVs] at h
    obtain ⟨v, r, rfl, h1, rfl⟩ := h
    exact h1
  | x :: y :: xs, h =>
    have h0 := h
    simp only [XVs] at h
    obtain ⟨v, r, rfl, h1, v2, r2, rfl, h2, h3⟩ := h
    simp only [packX, packA, XV]
    exact ⟨_, rfl, h0⟩

theorem res_ob {c : Nat} (k : RK) (x : k.T) (rd : RD) (h : ResV k x rd) : (resO c k x = none ∧ rd.ob = none) ∨ ∃ ty es τ l rows, resO c k x = some (.t c ty es τ l) ∧ rd.ob = some ⟨ty, es, false, rows⟩ ∧ RowsV τ l rows := by
  cases k with
  | v t => obtain ⟨y, rfl, _⟩ := h; exact .inl ⟨rfl, rfl⟩
  | g τ => obtain ⟨y, rfl, _⟩ := h; exact .inl ⟨rfl, rfl⟩
  | o ty es τ => obtain ⟨rows, rfl, hy⟩ := h; exact .inr ⟨ty, es, τ, x, rows, rfl, rfl, hy⟩

def ObP (c : Nat) (a : Option XOb) (rd : RD) : Prop := (a = none ∧ rd.ob = none) ∨ ∃ ty es τ l rows, a = some (.t c ty es τ l) ∧ rd.ob = some ⟨ty, es, false, rows⟩ ∧ RowsV τ l rows

theorem ress1_obs {A : Type} {c : Nat} {f : A → RD → Prop} {g : A → Option XOb} (hf : ∀ x rd, f x rd → ObP c (g x) rd) : ∀ (ks : List RK) (x : ResT.ResT1 A ks) (rds : List RD), RessV1 f ks x rds → All2 (ObP c) (resOs1 c g ks x) rds
  | [], x, rds, h => by
    simp only [RessV1] at h
    obtain ⟨rd, rfl, h1⟩ := h
    exact ⟨hf _ _ h1, trivial⟩
  | k :: ks, x, rds, h => by
    simp only [RessV1] at h
    obtain ⟨rd, r, rfl, h1, h2⟩ := h
    exact ⟨hf _ _ h1, ress1_obs (fun x rd => res_ob k x rd) ks _ r h2⟩

theorem ress_obs {c : Nat} (ks : List RK) (x : ResT ks) (rds : List RD) (h : RessV ks x rds) : All2 (ObP c) (resOs c ks x) rds := by
  cases ks with
  | nil => simp only [RessV] at h; subst h; trivial
  | cons k ks => simp only [RessV] at h; exact ress1_obs (fun x rd => res_ob k x rd) ks x rds h

theorem hCall_get (h : Nat → Option XOb) : ∀ (obs : List (Option XOb)) (d p : Nat), hCall h d obs p = if callK d obs.length p then (obs[(p - d) / 1000]?).bind id else h p
  | [], d, p => by
    have : callK d 0 p = false := by
      cases hk : callK d 0 p with
      | false => rfl
      | true => have := (callK_spec hk).2; omega
    simp [hCall, this]
  | ob :: obs, d, p => by
    simp only [hCall, beq_if]
    by_cases hp : p = d
    · subst hp
      have : callK p (ob :: obs).length p = true := by
        have := (callK_of (d := p) (k := 0) (m := (ob :: obs).length) (by simp)).1
        simpa using this
      rw [if_pos rfl, if_pos this]; simp
    · rw [if_neg hp, hCall_get h obs (d + 1000) p]
      cases hk : callK (d + 1000) obs.length p with
      | true =>
        obtain ⟨h1, h2⟩ := callK_spec hk
        have e1 : p = d + 1000 * ((p - (d + 1000)) / 1000 + 1) := by omega
        have e2 := callK_of (d := d) (k := (p - (d + 1000)) / 1000 + 1) (m := (ob :: obs).length) (by simp; omega)
        rw [← e1] at e2
        rw [e2.1]
        simp only [if_true]
        rw [e2.2]
        simp
      | false =>
        have : callK d (ob :: obs).length p = false := by
          cases hk2 : callK d (ob :: obs).length p with
          | false => rfl
          | true =>
            obtain ⟨h1, h2⟩ := callK_spec hk2
            simp only [List.length_cons] at h2
            have h3 : (p - d) / 1000 ≠ 0 := fun e => hp (by rw [e] at h1; omega)
            have e1 : p = d + 1000 + 1000 * ((p - d) / 1000 - 1) := by omega
            have e2 := callK_of (d := d + 1000) (k := (p - d) / 1000 - 1) (m := obs.length) (by omega)
            rw [← e1, hk] at e2
            exact absurd e2.1 (by simp)
        rw [this]
        simp

theorem RS.callR {xs : XSt} {s : St} (R : RS xs s) (dst : Option Nat) (ks : List RK) (r : ResT ks) (rds : List RD) (h : RessV ks r rds) : RS (xs.call dst ks r) (s.call dst rds) := by
  cases dst with
  | none => exact R
  | some d =>
    have hobs := ress_obs (c := xs.c) ks r rds h
    have hlen := hobs.len
    have L : HLe (callK d rds.length) ⟨xs.c, xs.h, s.h⟩ ⟨xs.c + 1, hCall xs.h d (resOs xs.c ks r), callH s.h d rds⟩ := by
      refine ⟨Nat.le_succ _, fun o xob' h1 h2 => ?_⟩
      simp only [hCall_get, hlen] at h1
      cases hk : callK d rds.length o with
      | true =>
        exfalso
        rw [hk] at h1
        simp only [if_true] at h1
        cases hg : (resOs xs.c ks r)[(o - d) / 1000]? with
        | none => simp [hg] at h1
        | some a =>
          simp [hg] at h1
          subst h1
          obtain ⟨rd, _, hr⟩ := hobs.get _ _ hg
          rcases hr with ⟨hr, _⟩ | ⟨_, _, _, _, _, hr, _⟩
          · cases hr
          · cases hr; simp only [XOb.ver] at h2; omega
      | false =>
        rw [hk] at h1
        simp only [Bool.false_eq_true, if_false] at h1
        refine ⟨rfl, ⟨xob', h1, rfl⟩, fun ob2 h3 => ⟨ob2.kill (callK d rds.length), ?_, by rw [Ob.kill_len]⟩⟩
        simp only [callH, hk, Bool.false_eq_true, if_false]
        simp only at h3
        rw [h3]; rfl
    have hin : ResIn ⟨xs.c + 1, hCall xs.h d (resOs xs.c ks r), callH s.h d rds⟩ d rds := by
      intro k rd ob hk hob
      have hlt := (List.getElem?_eq_some_iff.1 hk).1
      have e := callK_of (d := d) (k := k) (m := rds.length) hlt
      simp only [callH, e.1, if_true, e.2, rdH, hk, Option.bind_some, hob]
    refine ⟨fun i => ?_, fun o xob hx => ?_⟩
    · simp only [XSt.call, St.call, beq_if]
      by_cases hi : i = d
      · rw [if_pos hi, if_pos hi]
        exact pack_xv (ress_xvs (Nat.lt_succ_self _) ks r rds h hin)
      · rw [if_neg hi, if_neg hi]
        exact (R.t i).kill L
    · have hx' := hx
      simp only [XSt.call, hCall_get, hlen] at hx
      cases hk : callK d rds.length o with
      | true =>
        rw [hk] at hx
        simp only [if_true] at hx
        cases hg : (resOs xs.c ks r)[(o - d) / 1000]? with
        | none => simp [hg] at hx
        | some a =>
          simp [hg] at hx
          subst hx
          obtain ⟨rd, hrd, hr⟩ := hobs.get _ _ hg
          rcases hr with ⟨hr, _⟩ | ⟨ty, es, τ, l, rows, hr, hob, hrows⟩
          · cases hr
          · cases hr
            refine ⟨Nat.lt_succ_self _, ⟨ty, es, false, rows⟩, ?_, rfl, rfl, rfl, hrows⟩
            simp only [St.call, callH, hk, if_true, rdH, hrd, Option.bind_some, hob]
      | false =>
        rw [hk] at hx
        simp only [Bool.false_eq_true, if_false] at hx
        obtain ⟨h1, ob2, h2, h3⟩ := R.h o xob hx
        refine ⟨by show xob.ver < xs.c + 1; omega, ob2.kill (callK d rds.length), ?_, h3.frame L⟩
        simp only [St.call, callH, hk, Bool.false_eq_true, if_false]
        rw [h2]; rfl

end Go.AL
