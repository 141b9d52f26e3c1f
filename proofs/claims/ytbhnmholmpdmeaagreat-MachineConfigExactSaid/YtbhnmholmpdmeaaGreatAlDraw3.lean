/-
  THE ABSTRACT LAYER, FOURTEENTH PART: an operation of a drawn region may be taken first. By an AI agent.
-/
import Derived.Test.YtbhnmholmpdmeaaGreatAlDraw2
import Derived.Test.YtbhnmholmpdmeaaGreatAlFrz
namespace Go.AL
set_option linter.unusedVariables false
set_option linter.unusedSimpArgs false
set_option linter.unusedSectionVars false

def RD.deep : RD → Prop
  | .v x => okV (fun _ => true) x
  | .o _ _ rows => ∀ row ∈ rows, ∀ x ∈ row, PureV x

def aRun (P : Program) (n : Nat) (o : Oper) (Φ : St → Prop) (s : St) : Prop :=
  dOK n o.dst ∧ match aop P o s.ev s.h with
    | .val p v => p ∧ Φ (s.put o.dst v)
    | .new p ob r => match o.dst with
      | some d => p ∧ (Φ (s.new d ob (if r then .ref d ob.rows.length else .ptr d ob.rows.length 0 0)) ∨ (r = true ∧ ob.imp = false ∧ Φ (s.newP d ob)))
      | none => False
    | .upd p q ob => p ∧ Φ ((s.setOb q ob).put o.dst .dead)
    | .app p q ob => p ∧ Φ ((s.setOb q ob).put o.dst (.ref q ob.rows.length))
    | .call g args => ∃ args' Pd, FnP P g args' Pd ∧ argsOK s.h args args' ∧ ∀ rds, Pd rds → (∀ rd ∈ rds, rd.deep) ∧ Φ (s.call o.dst rds)
    | .bad => False

def aSkip (n : Nat) (o : Oper) (Φ : St → Prop) (s : St) : Prop := dOK n o.dst ∧ Φ (s.put o.dst (.tup []))

def aStep (P : Program) (n : Nat) (ops : Array Oper) (o : Oper) (Φ : St → Prop) (s : St) : Prop :=
  match gst ops o s with
  | none => aRun P n o Φ s
  | some (.bool b, want) => (b = want → aRun P n o Φ s) ∧ (b = !want → aSkip n o Φ s)
  | some (.tup _, _) => aSkip n o Φ s
  | _ => False

theorem aStep_iff {P : Program} {n : Nat} {ops : Array Oper} {o : Oper} {Φ : St → Prop} {s : St} (h : aStep P n ops o Φ s) :
    (aRun P n o Φ s ∧ ∀ Ψ s', gst ops o s' = gst ops o s → aRun P n o Ψ s' → aStep P n ops o Ψ s') ∨ (aSkip n o Φ s ∧ ∀ Ψ s', gst ops o s' = gst ops o s → aSkip n o Ψ s' → aStep P n ops o Ψ s') := by
  unfold aStep at h
  split at h
  · rename_i hg
    exact .inl ⟨h, fun Ψ s' he hr => by unfold aStep; rw [he, hg]; exact hr⟩
  · rename_i b want hg
    by_cases hb : b = want
    · exact .inl ⟨h.1 hb, fun Ψ s' he hr => by
        unfold aStep; rw [he, hg]
        exact ⟨fun _ => hr, fun h2 => by subst hb; cases b <;> cases h2⟩⟩
    · have hb2 : b = !want := by cases b <;> cases want <;> simp_all
      exact .inr ⟨h.2 hb2, fun Ψ s' he hr => by
        unfold aStep; rw [he, hg]
        exact ⟨fun h1 => absurd h1 hb, fun _ => hr⟩⟩
  · rename_i xs want hg
    exact .inr ⟨h, fun Ψ s' he hr => by unfold aStep; rw [he, hg]; exact hr⟩
  · exact h.elim

theorem aRun_mono {P : Program} {n : Nat} {o : Oper} {Φ Ψ : St → Prop} {s : St} (hm : ∀ s, Φ s → Ψ s) (h : aRun P n o Φ s) : aRun P n o Ψ s := by
  unfold aRun at *
  refine ⟨h.1, ?_⟩
  have h2 := h.2
  split at h2
  · exact ⟨h2.1, hm _ h2.2⟩
  · split at h2
    · exact ⟨h2.1, h2.2.imp (hm _) fun h => ⟨h.1, h.2.1, hm _ h.2.2⟩⟩
    · exact h2
  · exact ⟨h2.1, hm _ h2.2⟩
  · exact ⟨h2.1, hm _ h2.2⟩
  · obtain ⟨a, r, h3, h4, h6⟩ := h2; exact ⟨a, r, h3, h4, fun rds hp => ⟨(h6 rds hp).1, hm _ (h6 rds hp).2⟩⟩
  · exact h2

theorem aStep_mono {P : Program} {n : Nat} {ops : Array Oper} {o : Oper} {Φ Ψ : St → Prop} {s : St} (hm : ∀ s, Φ s → Ψ s) (h : aStep P n ops o Φ s) : aStep P n ops o Ψ s := by
  rcases aStep_iff h with ⟨h1, h2⟩ | ⟨h1, h2⟩
  · exact h2 Ψ s rfl (aRun_mono hm h1)
  · exact h2 Ψ s rfl ⟨h1.1, hm _ h1.2⟩

/-! ### The light operations -/
inductive Kind where
  | plain    -- yields a value, looks at no object
  | look     -- yields a value, looks at objects
  | alloc    -- makes one variable
  | box      -- makes one variable, looks at objects
  | heavy
  deriving DecidableEq

def kindOf : Op → Kind
  | .move _ | .assign _ | .pick .. | .binOp .. | .unOp .. | .convert .. | .slice .. | .field .. | .extract .. | .makeFunc .. => .plain
  | .load .. | .fieldAddr .. | .indexAddr .. | .nilCheck _ | .build .. => .look
  | .call { callee := .builtin .len, .. } | .call { callee := .builtin .max, .. } | .call { callee := .builtin .min, .. } => .look
  | .alloc _ => .alloc
  | .box .. | .buildSlice .. => .box
  | _ => .heavy

def writes : Op → Bool
  | .store .. => true
  | .call { callee := .builtin _, .. } => true
  | _ => false

theorem kind_val {P : Program} {o : Oper} {e : Operand → V} {h : Nat → Option Ob} (hk : kindOf o.op = .plain ∨ kindOf o.op = .look) : (∃ p v, aop P o e h = .val p v) ∨ aop P o e h = .bad := by
  have ld : ∀ (t : TypeId) (p : Prop) (imp : Bool) (row : List V) (j : Nat), (∃ q v, loadR P t p imp row j = .val q v) ∨ loadR P t p imp row j = .bad := by
    intro t p imp row j
    unfold loadR
    split
    · exact .inl ⟨_, _, rfl⟩
    · split
      · split
        · split
          · exact .inl ⟨_, _, rfl⟩
          · exact .inr rfl
        · exact .inr rfl
      · exact .inr rfl
  have vb : ∀ (p : Prop) (v : V), (∃ q w, AR.val p v = .val q w) ∨ AR.val p v = .bad := fun p v => .inl ⟨p, v, rfl⟩
  have bb : (∃ q w, AR.bad = .val q w) ∨ AR.bad = .bad := .inr rfl
  obtain ⟨dst, op, ty, pos, after, guard⟩ := o
  unfold aop
  cases op <;> simp only [kindOf] at hk <;> (try (rcases hk with hk | hk <;> cases hk; done)) <;> dsimp only
  case move => exact vb _ _
  case assign => exact vb _ _
  case pick => split <;> first | exact vb _ _ | exact bb
  case build =>
    unfold abuild
    split
    · split
      · split <;> first | exact vb _ _ | exact bb
      · exact bb
    · exact bb
  case load =>
    split
    · unfold aload
      split
      · split
        · split
          · exact ld _ _ _ _ _
          · exact bb
        · exact bb
      · exact ld _ _ _ _ _
      · exact bb
    · exact bb
  case binOp => split <;> first | exact vb _ _ | exact bb
  case unOp op t x => cases op <;> dsimp only <;> (try exact bb) <;> split <;> first | exact vb _ _ | exact bb
  case convert =>
    split
    · split <;> first | exact vb _ _ | exact bb
    · exact bb
  case slice t x lo hi mx =>
    cases mx <;> dsimp only
    · unfold aslice
      split
      · exact bb
      split
      · exact bb
      split <;> (try exact bb) <;> split <;> first | exact vb _ _ | exact bb
    · exact bb
  case fieldAddr =>
    unfold afieldAddr
    split
    · split
      · split <;> first | exact vb _ _ | exact bb
      · exact bb
    · split <;> first | exact vb _ _ | exact bb
    · exact bb
  case field =>
    unfold afield
    split
    · split
      · split
        · exact vb _ _
        · split
          · split <;> first | exact vb _ _ | exact bb
          · exact bb
      · exact bb
    · exact bb
  case indexAddr =>
    split
    · unfold aindexRef
      split
      · split
        · exact bb
        · split
          · split <;> first | exact vb _ _ | exact bb
          · exact bb
      · exact bb
    · unfold aindexArr
      split
      · split
        · exact bb
        · split
          · split <;> first | exact vb _ _ | exact bb
          · exact bb
      · exact bb
    · unfold aindexAddr
      split
      · split
        · exact bb
        · split <;> (try exact bb) <;> split <;> first | exact vb _ _ | exact bb
      · exact bb
  case extract =>
    split
    · split <;> first | exact vb _ _ | exact bb
    · exact bb
  case makeFunc fn first caps =>
    cases fn <;> dsimp only <;> (try exact bb)
    split <;> first | exact vb _ _ | exact bb
  case nilCheck => split <;> first | exact vb _ _ | exact bb
  case call c =>
    obtain ⟨callee, args, argTypes⟩ := c
    unfold acall
    dsimp only
    cases callee with
    | value f => rcases hk with hk | hk <;> cases hk
    | invoke r m => exact bb
    | builtin b =>
      cases b <;> (try (rcases hk with hk | hk <;> cases hk; done)) <;> dsimp only
      case len =>
        split
        · split
          · exact vb _ _
          · split <;> first | exact vb _ _ | exact bb
        · exact bb
      case max => split <;> first | exact vb _ _ | exact bb
      case min => split <;> first | exact vb _ _ | exact bb

theorem kind_new {P : Program} {o : Oper} {e : Operand → V} {h : Nat → Option Ob} (hk : kindOf o.op = .alloc ∨ kindOf o.op = .box) : (∃ p ob r, aop P o e h = .new p ob r) ∨ aop P o e h = .bad := by
  obtain ⟨dst, op, ty, pos, after, guard⟩ := o
  unfold aop
  cases op <;> simp only [kindOf] at hk <;> (try (rcases hk with hk | hk <;> cases hk; done)) <;> dsimp only
  case alloc =>
    unfold aalloc
    split
    · split
      · split <;> first | exact .inl ⟨_, _, _, rfl⟩ | exact .inr rfl
      · exact .inl ⟨_, _, _, rfl⟩
    · exact .inr rfl
  case box => exact .inl ⟨_, _, _, rfl⟩
  case buildSlice =>
    unfold abuildSlice
    split
    · split <;> first | exact .inl ⟨_, _, _, rfl⟩ | exact .inr rfl
    · exact .inr rfl
  case call c =>
    obtain ⟨callee, args, argTypes⟩ := c
    cases callee with
    | value f => rcases hk with hk | hk <;> cases hk
    | invoke r m => rcases hk with hk | hk <;> cases hk
    | builtin b => cases b <;> (rcases hk with hk | hk <;> cases hk)

theorem kind_free {P : Program} {o : Oper} {e e' : Operand → V} {h h' : Nat → Option Ob} (hk : kindOf o.op = .plain ∨ kindOf o.op = .alloc) (he : ∀ x ∈ o.op.operands.toList, e x = e' x) : aop P o e h = aop P o e' h' := by
  obtain ⟨dst, op, ty, pos, after, guard⟩ := o
  unfold aop
  simp only at he ⊢
  cases op <;> simp only [kindOf] at hk <;> (try (rcases hk with hk | hk <;> cases hk; done)) <;> simp only [Op.operands] at he <;> (try dsimp only)
  case move x => rw [he x (by simp)]
  case assign x => rw [he x (by simp)]
  case pick c a b => rw [he c (by simp), he a (by simp), he b (by simp)]
  case binOp op t x y yt => rw [he x (by simp), he y (by simp)]
  case unOp op t x => cases op <;> simp only [] <;> rw [he x (by simp)]
  case convert s d x => rw [he x (by simp)]
  case slice t x lo hi mx =>
    cases mx <;> simp only []
    rw [he x (by simp)]
    have h1 : lo.map e = lo.map e' := by cases lo with | none => rfl | some z => simp; exact he z (by simp)
    have h2 : hi.map e = hi.map e' := by cases hi with | none => rfl | some z => simp; exact he z (by simp)
    rw [h1, h2]
  case field t x f => rw [he x (by simp)]
  case extract x i => rw [he x (by simp)]
  case makeFunc fn first caps =>
    cases fn <;> simp only []
    have hc : caps.toList.map e = caps.toList.map e' := List.map_congr_left fun x hx => he x (by simp; exact .inr (by simpa using hx))
    rw [hc]
  case call c =>
    obtain ⟨callee, args, argTypes⟩ := c
    cases callee with
    | value f => rcases hk with hk | hk <;> cases hk
    | invoke r m => rfl
    | builtin b => cases b <;> (rcases hk with hk | hk <;> cases hk)

/-! ### Effects -/
def St.eff (s : St) (dst : Option Nat) (v : V) (obo : Option Ob) : St :=
  match dst, obo with
  | some d, some ob => ⟨fun i => if i = d then v else s.t i, fun p => if p = d then some ob else s.h p⟩
  | dst, _ => s.put dst v

theorem eff_none (s : St) (dst : Option Nat) (v : V) : s.eff dst v none = s.put dst v := by cases dst <;> rfl

theorem okS.new_eff {K : Nat → Bool} {s : St} (hs : okS K s) {d : Nat} (hd : K d = true) {ob : Ob} (hob : okOb K ob) (v : V) : s.new d ob v = s.eff (some d) v (some ob) := by
  have hm : ∀ p, (p == d) = true → K p = true := fun p hp => by have : p = d := by simpa using hp
                                                                rw [this]; exact hd
  have hs' := hs.mono (K' := (· == d)) hm
  have hob' : okOb (· == d) ob := fun row hr x hx => ⟨okC_mono hm (hob row hr x hx).1, (hob row hr x hx).2⟩
  unfold St.new St.eff newH
  congr 1
  · funext i
    by_cases hi : i = d
    · simp [hi]
    · simp only [if_neg hi]; exact okV_kill (hs'.t i)
  · funext p
    by_cases hp : p = d
    · simp only [if_pos hp]; rw [okOb_kill hob']
    · simp only [if_neg hp]
      cases hh : s.h p with
      | none => rfl
      | some ob2 => simp only [Option.map_some]; rw [okOb_kill (hs'.h p ob2 hh)]

theorem okS.newP_put {K : Nat → Bool} {s : St} (hs : okS K s) {d : Nat} (hd : K d = true) (ob : Ob) : s.newP d ob = s.put (some d) (.sl ob.rows) := by
  have hm : ∀ p, (p == d) = true → K p = true := fun p hp => by have : p = d := by simpa using hp
                                                                rw [this]; exact hd
  have hs' := hs.mono (K' := (· == d)) hm
  unfold St.newP St.put
  simp only
  congr 1
  · funext i
    by_cases hi : i = d
    · simp [hi]
    · simp only [if_neg hi, St.new]; rw [okV_kill (hs'.t i)]; exact okV_kill (hs'.t i)
  · funext p
    unfold dropH
    by_cases hp : p = d
    · rw [if_pos hp, hp, hs.n d hd]
    · simp only [if_neg hp, St.new, newH]
      cases hh : s.h p with
      | none => rfl
      | some ob2 => simp only [Option.map_some]; rw [okOb_kill (hs'.h p ob2 hh), okOb_kill (hs'.h p ob2 hh)]
theorem okOb.sl {K : Nat → Bool} {ob : Ob} (h : okOb K ob) (himp : ob.imp = false) : PureV (.sl ob.rows) := .sl _ fun row hr x hx => (h row hr x hx).2 himp

def minus (K : Nat → Bool) (dst : Option Nat) : Nat → Bool := fun p => K p && !(dst == some (p % 1000))

theorem minus_le {K : Nat → Bool} {dst : Option Nat} : ∀ p, minus K dst p = true → K p = true := fun p h => by
  simp only [minus, Bool.and_eq_true] at h; exact h.1

end Go.AL
