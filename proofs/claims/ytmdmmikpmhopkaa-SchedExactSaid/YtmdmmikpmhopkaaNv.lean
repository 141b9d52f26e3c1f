/-
  Layer 30: nested own slices at the grain of the world: dispatchers whose upcalls each lie in a block of their own. By an AI agent.
-/
import Derived.WalkKit
import Derived.Laws.OwnMore
import Derived.Deep.RegionHeld3
import Derived.Test.YtmdmmikpmhopkaaK12
import Derived.Deep.DrawnRows
import Derived.Deep.AppendLies
import Derived.Deep.RegionHeldLaw
set_option linter.unusedVariables false
set_option linter.unusedSimpArgs false
namespace Go.Proofs
open Go.RowKit Go.Shelf Go.AL
def ArgsAt (w : World) (ad : List AK) (a : ArgT ad) (us : Array Value) : Prop :=
 ∃ vargs,ArgsV ad a vargs ∧ us.size = vargs.length ∧ ∀ (i : Nat) (x : V),vargs[i]? = some x → ∃ u,us[i]? = some u ∧ Rel ⟨w,fun _ => False,noH,noB⟩ x u
theorem Ns.call {P : Program} {e : Ent} (h : e.Ok P) (a : ArgT e.ad) (hp : e.pre a = true) {w : World} {us : Array Value} (ha : ArgsAt w e.ad a us) :
  Calls P e.g us w fun en w' => ∃ rds us' β' A',RessV e.rk (e.fn a) rds ∧ en = .returned (packV us') ∧ PostR w (fun _ => False) rds w' us' β' A' := by
 obtain ⟨vargs,h1,h2,h3⟩ := ha
 exact (h a hp vargs h1).2 w (fun _ => False) us (fun b h => h.elim) h2 h3
theorem Ns.below {w w' : World} {n : Nat} (h : Ev w w' noI.P) : Below n w w' ∨ True := .inr trivial
theorem ev_below' {w W : World} (h : Ev w W noI.P) : Below w.heap.size w W := ⟨h.os,h.tape,h.output,h.size,fun k hk => h.block k hk (fun hq => hq)⟩
theorem flat_len {α β : Type} {f : α → List β} {k : Nat} (hf : ∀ x,(f x).length = k) : ∀ l : List α,(l.flatMap f).length = l.length * k
 | [] => by simp
 | x :: l => by simp only [List.flatMap_cons,List.length_append,hf,flat_len hf l,List.length_cons,Nat.succ_mul]; omega
theorem flat_get {α β : Type} {f : α → List β} {k : Nat} (hf : ∀ x,(f x).length = k) : ∀ (l : List α) (i j : Nat) (x : α),l[i]? = some x → j < k → (l.flatMap f)[i * k + j]? = (f x)[j]?
 | [],i,j,x,h,_ => by simp at h
 | y :: l,0,j,x,h,hj => by
  simp at h; subst h
  rw [List.flatMap_cons,List.getElem?_append_left (by rw [hf]; omega)]; simp
 | y :: l,i + 1,j,x,h,hj => by
  have := flat_get hf l i j x (by simpa using h) hj
  rw [List.flatMap_cons,List.getElem?_append_right (by rw [hf,Nat.succ_mul]; omega),hf,Nat.succ_mul,← this]
  congr 1; omega
theorem flat_take {α β : Type} {f : α → List β} {k : Nat} (hf : ∀ x,(f x).length = k) (l : List α) (i : Nat) : (l.flatMap f).take (i * k) = (l.take i).flatMap f := by
 induction l generalizing i with
 | nil => simp
 | cons y l ih =>
  cases i with
  | zero => simp
  | succ i =>
   rw [List.flatMap_cons,List.take_succ_cons,List.flatMap_cons,List.take_append,hf,List.take_of_length_le (by rw [hf,Nat.succ_mul]; omega),show (i + 1) * k - k = i * k by rw [Nat.succ_mul]; omega,ih]
theorem flat_drop {α β : Type} {f : α → List β} {k : Nat} (hf : ∀ x,(f x).length = k) (l : List α) (i : Nat) : (l.flatMap f).drop (i * k) = (l.drop i).flatMap f := by
 induction l generalizing i with
 | nil => simp
 | cons y l ih =>
  cases i with
  | zero => simp
  | succ i =>
   rw [List.flatMap_cons,List.drop_succ_cons,List.drop_append,hf,List.drop_eq_nil_of_le (by rw [hf,Nat.succ_mul]; omega),show (i + 1) * k - k = i * k by rw [Nat.succ_mul]; omega,ih]; simp
theorem flat_all {α : Type} {f : α → List Value} (h : ∀ x,∀ v ∈ f x,v.oneCell' = true) (l : List α) : ∀ v ∈ l.flatMap f,v.oneCell' = true := fun v hv => by
 obtain ⟨x,_,h2⟩ := List.mem_flatMap.1 hv
 exact h x v h2
def HB (W : World) (B : Nat) (t : TypeId) (cs : Array Value) : Prop := W.heap[B]? = some (.cells cs t (0,0))
theorem HB.lt {W : World} {B : Nat} {t : TypeId} {cs : Array Value} (h : HB W B t cs) : B < W.heap.size := (Array.getElem?_eq_some_iff.1 h).1
theorem HB.cell {W : World} {B : Nat} {t : TypeId} {cs : Array Value} (h : HB W B t cs) (j : Nat) : W.cell? ⟨B,j,none⟩ = cs[j]? := by simp [World.cell?,show W.heap[B]? = _ from h]
theorem HB.frozen {W : World} {B : Nat} {t : TypeId} {cs : Array Value} (h : HB W B t cs) (j : Nat) : W.frozen? ⟨B,j,none⟩ = false := by simp [World.frozen?,show W.heap[B]? = _ from h]
theorem HB.new (W : World) (t : TypeId) (cs : Array Value) : HB (W.alloc (.cells cs t)) W.heap.size t cs := heap_alloc_new W _
theorem HB.below {W W' : World} {n₀ B : Nat} {t : TypeId} {cs : Array Value} (h : HB W B t cs) (hb : Below n₀ W W') (hlt : B < n₀) : HB W' B t cs := (hb.block B hlt).trans h
theorem HB.alloc {W : World} {B : Nat} {t : TypeId} {cs : Array Value} (h : HB W B t cs) (o : Obj) : HB (W.alloc o) B t cs := h.below ((Below.refl W.heap.size W).alloc (Nat.le_refl _) o) h.lt
theorem HB.set {W : World} {B : Nat} {t : TypeId} {cs : Array Value} (h : HB W B t cs) (j : Nat) (v : Value) : HB (W.setCell ⟨B,j,none⟩ v) B t (cs.setIfInBounds j v) := by
 obtain ⟨hlt,hk⟩ := Array.getElem?_eq_some_iff.1 h
 show (W.heap.modify B _)[B]? = _
 rw [Array.getElem?_eq_getElem (by rw [Array.size_modify]; exact hlt),Array.getElem_modify_self,hk]
 rfl
theorem HB.other {W : World} {B B' : Nat} {t : TypeId} {cs : Array Value} (h : HB W B t cs) (hne : B ≠ B') (j : Nat) (u : Value) : HB (W.setCell ⟨B',j,none⟩ u) B t cs := (Below.heap_setCell W ⟨B',j,none⟩ u B hne).trans h
theorem HB.ev {W W' : World} {B : Nat} {X : Nat → Prop} {t : TypeId} {cs : Array Value} (h : HB W B t cs) (hb : Ev W W' X) (hX : ¬ X B) : HB W' B t cs := (hb.block B h.lt hX).trans h
theorem Own.ev {W W' : World} {n0 e k : Nat} {v : Value} {n : Nat} {xs : List Value} (h : W.ownsRow n0 e k v n xs) {X : Nat → Prop} (hb : Ev W W' X) (hX : ∀ g,v.ownBlock = some g → ¬ X g) : W'.ownsRow n0 e k v n xs := by
 refine ⟨h.1,?_⟩
 rcases h.2 with h0 | ⟨g,cap,cur,rfl,h1,h2,h3⟩
 ·exact .inl h0
 ·exact .inr ⟨g,cap,cur,rfl,h1,(hb.block g (Array.getElem?_eq_some_iff.1 h2).1 (hX g rfl)).trans h2,h3⟩
theorem Own.lt {W : World} {n0 e k : Nat} {v : Value} {n : Nat} {xs : List Value} (h : W.ownsRow n0 e k v n xs) {g : Nat} (hg : v.ownBlock = some g) : n0 ≤ g ∧ g < W.heap.size := by
 rcases h.2 with ⟨rfl,_⟩ | ⟨g',cap,cur,rfl,h1,h2,h3⟩
 ·cases hg
 ·cases hg; exact ⟨h1,(Array.getElem?_eq_some_iff.1 h2).1⟩
theorem below_ev {W W' : World} {n : Nat} (h : Below n W W') : Ev W W' (fun g => n ≤ g) := ⟨h.os,h.tape,h.output,h.size,fun k hk hX => h.block k (by omega)⟩
theorem ev_below_n {w W : World} {X : Nat → Prop} {n : Nat} (h : Ev w W X) (hX : ∀ g,X g → n ≤ g) (hn : n ≤ w.heap.size) : Below n w W := ⟨h.os,h.tape,h.output,h.size,fun k hk => h.block k (by omega) (fun q => by have := hX k q; omega)⟩
abbrev Ns.m (x : Int) : List Value := [.int .i64 x]
abbrev Ns.p (x : SDs × Value) : List Value := [.int .i64 x.1.1,.int .i64 x.1.2.1,.int .i64 x.1.2.2.1,.int .i64 x.1.2.2.2.1,.bool x.1.2.2.2.2.1,.bool x.1.2.2.2.2.2.1,.bool x.1.2.2.2.2.2.2.1,.int .i64 x.1.2.2.2.2.2.2.2.1,.int .i64 x.1.2.2.2.2.2.2.2.2.1,.int .i64 x.1.2.2.2.2.2.2.2.2.2.1,x.2]
def Ns.ms (l : List Int) : List Value := l.flatMap Ns.m
def Ns.ps (R : List (SDs × Value)) : List Value := R.flatMap Ns.p
abbrev tyM : TypeId := 3
abbrev tyP : TypeId := 53
structure Nest (W : World) (n0 : Nat) (out : Value) (R : List (SDs × Value)) : Prop where
 own : W.ownsRow n0 tyP 11 out R.length (Ns.ps R)
 inn : ∀ p ∈ R,W.ownsRow n0 tyM 1 p.2 (ups p.1).length (Ns.ms (ups p.1))
 ne : ∀ p ∈ R,∀ g,p.2.ownBlock = some g → out.ownBlock ≠ some g
 dis : R.Pairwise fun p q => ∀ g,p.2.ownBlock = some g → q.2.ownBlock ≠ some g
theorem Nest.ev {W W' : World} {n0 : Nat} {out : Value} {R : List (SDs × Value)} (h : Nest W n0 out R) {X : Nat → Prop} (hb : Ev W W' X) (hX : ∀ g,n0 ≤ g → g < W.heap.size → ¬ X g) : Nest W' n0 out R :=
 ⟨Own.ev h.own hb (fun g hg => hX g (Own.lt h.own hg).1 (Own.lt h.own hg).2),fun p hp => Own.ev (h.inn p hp) hb (fun g hg => hX g (Own.lt (h.inn p hp) hg).1 (Own.lt (h.inn p hp) hg).2),h.ne,h.dis⟩
theorem Nest.below {W W' : World} {n0 : Nat} {out : Value} {R : List (SDs × Value)} (h : Nest W n0 out R) (hb : Below W.heap.size W W') : Nest W' n0 out R :=
 h.ev (below_ev hb) (fun g _ hg hx => by omega)
theorem own_one {W : World} {n0 e k : Nat} {v : Value} {n : Nat} {xs : List Value} (h : W.ownsRow n0 e k v n xs) : v.oneCell' = true := by
 rcases h.2 with ⟨rfl,_⟩ | ⟨g',cap,cur,rfl,h1,h2,h3⟩ <;> rfl
theorem Nest.one {W : World} {n0 : Nat} {out : Value} {R : List (SDs × Value)} (h : Nest W n0 out R) : ∀ v ∈ Ns.ps R,v.oneCell' = true := fun v hv => by
 obtain ⟨x,h1,h2⟩ := List.mem_flatMap.1 hv
 simp only [Ns.p,List.mem_cons,List.not_mem_nil,or_false] at h2
 rcases h2 with rfl | rfl | rfl | rfl | rfl | rfl | rfl | rfl | rfl | rfl | rfl
 all_goals first
  | rfl
  | exact own_one (h.inn x h1)
theorem Ns.ms_one (l : List Int) : ∀ v ∈ Ns.ms l,v.oneCell' = true := flat_all (fun x v hv => by
 simp only [Ns.m,List.mem_cons,List.not_mem_nil,or_false] at hv
 rcases hv with rfl
 rfl) l
theorem Ns.mRow {x : Int} {row : List V} : RowV [.int .i64] x row = (∃ v0,row = [v0] ∧ v0 = .int .i64 x) := by kernel_rfl
theorem Ns.mRow' {x : Int} {row : List V} (h : RowV [.int .i64] x row) : row = (Ns.m x).map V.ofCell := by
 rw [Ns.mRow] at h
 obtain ⟨v0,rfl,rfl⟩ := h
 rfl
theorem Ns.mRow_of (x : Int) : RowV [.int .i64] x ((Ns.m x).map V.ofCell) := by
 rw [Ns.mRow]
 exact ⟨_,rfl,rfl⟩
theorem Ns.pRow {x : SDs} {row : List V} : RowV tSDs x row = (∃ v0 r0,row = v0 :: r0 ∧ (v0 = .int .i64 x.1) ∧ ∃ v1 r1,r0 = v1 :: r1 ∧ (v1 = .int .i64 x.2.1) ∧ ∃ v2 r2,r1 = v2 :: r2 ∧ (v2 = .int .i64 x.2.2.1) ∧ ∃ v3 r3,r2 = v3 :: r3 ∧ (v3 = .int .i64 x.2.2.2.1) ∧ ∃ v4 r4,r3 = v4 :: r4 ∧ (v4 = .bool x.2.2.2.2.1) ∧ ∃ v5 r5,r4 = v5 :: r5 ∧ (v5 = .bool x.2.2.2.2.2.1) ∧ ∃ v6 r6,r5 = v6 :: r6 ∧ (v6 = .bool x.2.2.2.2.2.2.1) ∧ ∃ v7 r7,r6 = v7 :: r7 ∧ (v7 = .int .i64 x.2.2.2.2.2.2.2.1) ∧ ∃ v8 r8,r7 = v8 :: r8 ∧ (v8 = .int .i64 x.2.2.2.2.2.2.2.2.1) ∧ ∃ v9 r9,r8 = v9 :: r9 ∧ (v9 = .int .i64 x.2.2.2.2.2.2.2.2.2.1) ∧ ∃ v10,r9 = [v10] ∧ TyV (.sl [.int .i64]) (ups x) v10) := by kernel_rfl
theorem Ns.slV {zs : List Int} {v : V} : TyV (.sl [.int .i64]) zs v = ((zs = [] ∧ v = .nil) ∨ ∃ rows,v = .sl rows ∧ All2 (RowV [.int .i64]) zs rows) := by kernel_rfl
def Ns.mV (l : List Int) : List (List V) := l.map fun x => (Ns.m x).map V.ofCell
theorem Ns.mV_rows : ∀ l : List Int,All2 (RowV [.int .i64]) l (Ns.mV l)
 | [] => trivial
 | x :: l => ⟨Ns.mRow_of x,Ns.mV_rows l⟩
def Ns.pV (R : List (SDs × Value)) : List (List V) := R.map fun x => [.int .i64 x.1.1,.int .i64 x.1.2.1,.int .i64 x.1.2.2.1,.int .i64 x.1.2.2.2.1,.bool x.1.2.2.2.2.1,.bool x.1.2.2.2.2.2.1,.bool x.1.2.2.2.2.2.2.1,.int .i64 x.1.2.2.2.2.2.2.2.1,.int .i64 x.1.2.2.2.2.2.2.2.2.1,.int .i64 x.1.2.2.2.2.2.2.2.2.2.1,.sl (Ns.mV (ups x.1))]
theorem Ns.pV_rows : ∀ R : List (SDs × Value),All2 (RowV tSDs) (R.map Prod.fst) (Ns.pV R)
 | [] => trivial
 | x :: l => ⟨by rw [Ns.pRow]; exact ⟨_,_,rfl,rfl,_,_,rfl,rfl,_,_,rfl,rfl,_,_,rfl,rfl,_,_,rfl,rfl,_,_,rfl,rfl,_,_,rfl,rfl,_,_,rfl,rfl,_,_,rfl,rfl,_,_,rfl,rfl,_,rfl,by rw [Ns.slV]; exact .inr ⟨_,rfl,Ns.mV_rows _⟩⟩,Ns.pV_rows l⟩
theorem own_cells {W : World} {n0 e k : Nat} {g cap n : Nat} {xs : List Value} {cur : Array Value} (h2 : W.heap[g]? = some (.cells cur e (0,0))) (ht : cur.toList.take (n * k) = xs) {j : Nat} {v : Value} (hj : xs[j]? = some v) : W.cell? ⟨g,j,none⟩ = some v :=
 cell_row (w := W) (m := n * k) h2 ht j v hj
theorem Ns.mRel {W : World} {n0 : Nat} {A X : Nat → Prop} {v : Value} {l : List Int} (h : W.ownsRow n0 tyM 1 v l.length (Ns.ms l)) (hA : ∀ g,v.ownBlock = some g → ¬ X g) : SlAt W A X (Ns.mV l) v := by
 rcases h.2 with ⟨rfl,h0⟩ | ⟨g,cap,cur,rfl,h1,h2,h3,h4,h5,h6⟩
 ·refine .inl ⟨⟨_,rfl⟩,?_⟩
  have : l = [] := List.eq_nil_of_length_eq_zero h0
  rw [this]; rfl
 ·have hlen : (Ns.mV l).length = l.length := by simp [Ns.mV]
  refine .inr ⟨g,0,cap,1,fun i j => ((Ns.ms l)[i * 1 + j]?).getD undef,by rw [hlen],by rw [hlen]; exact h3,fun _ => ⟨(Array.getElem?_eq_some_iff.1 h2).1,hA g rfl⟩,fun row hr => ?_,fun i row hi j x hx => ?_,fun i row hi j x hx => ?_⟩
  ·obtain ⟨y,_,rfl⟩ := List.mem_map.1 hr
   rfl
  all_goals
   simp only [Ns.mV,List.getElem?_map,Option.map_eq_some_iff] at hi
   obtain ⟨y,hy,rfl⟩ := hi
   rw [List.getElem?_map,Option.map_eq_some_iff] at hx
   obtain ⟨u,hu,rfl⟩ := hx
   have hj1 : j < 1 := by have := (List.getElem?_eq_some_iff.1 hu).1; simpa using this
   have hg := flat_get (f := Ns.m) (k := 1) (fun _ => rfl) l i j y hy hj1
   rw [hu] at hg
   have hg : (Ns.ms l)[i * 1 + j]? = some u := hg
  ·simp only [hg,Nat.zero_add,Option.getD_some]
   exact own_cells (n0 := n0) (cap := cap) h2 h6 hg
  ·simp only [hg,Option.getD_some]
   exact relP_ofCell u (Ns.ms_one l u (List.mem_of_getElem? hg))
theorem Nest.rel {W : World} {n0 : Nat} {out : Value} {R : List (SDs × Value)} (h : Nest W n0 out R) {A X : Nat → Prop} (hA : ∀ p ∈ R,∀ g,p.2.ownBlock = some g → ¬ A g) (hX : ∀ g,out.ownBlock = some g → ¬ X g) : SlAt W A X (Ns.pV R) out := by
 rcases h.own.2 with ⟨rfl,h0⟩ | ⟨g,cap,cur,rfl,h1,h2,h3,h4,h5,h6⟩
 ·refine .inl ⟨⟨_,rfl⟩,?_⟩
  have : R = [] := List.eq_nil_of_length_eq_zero h0
  rw [this]; rfl
 ·have hlen : (Ns.pV R).length = R.length := by simp [Ns.pV]
  refine .inr ⟨g,0,cap,11,fun i j => ((Ns.ps R)[i * 11 + j]?).getD undef,by rw [hlen],by rw [hlen]; exact h3,fun _ => ⟨(Array.getElem?_eq_some_iff.1 h2).1,hX g rfl⟩,fun row hr => ?_,fun i row hi j x hx => ?_,fun i row hi j x hx => ?_⟩
  ·obtain ⟨y,_,rfl⟩ := List.mem_map.1 hr
   rfl
  all_goals
   simp only [Ns.pV,List.getElem?_map,Option.map_eq_some_iff] at hi
   obtain ⟨y,hy,rfl⟩ := hi
   have hj11 : j < 11 := by have := (List.getElem?_eq_some_iff.1 hx).1; simpa using this
   have hg := flat_get (f := Ns.p) (k := 11) (fun _ => rfl) R i j y hy hj11
   obtain ⟨u,hu⟩ : ∃ u,(Ns.p y)[j]? = some u := ⟨_,List.getElem?_eq_getElem hj11⟩
   rw [hu] at hg
   have hg : (Ns.ps R)[i * 11 + j]? = some u := hg
  ·simp only [hg,Nat.zero_add,Option.getD_some]
   exact own_cells (n0 := n0) (cap := cap) h2 h6 hg
  ·simp only [hg,Option.getD_some]
   match j,hj11,hx,hu with
   | 0,_,hx,hu => simp at hx hu; subst hx; subst hu; exact .int _ _
   | 1,_,hx,hu => simp at hx hu; subst hx; subst hu; exact .int _ _
   | 2,_,hx,hu => simp at hx hu; subst hx; subst hu; exact .int _ _
   | 3,_,hx,hu => simp at hx hu; subst hx; subst hu; exact .int _ _
   | 4,_,hx,hu => simp at hx hu; subst hx; subst hu; exact .bool _
   | 5,_,hx,hu => simp at hx hu; subst hx; subst hu; exact .bool _
   | 6,_,hx,hu => simp at hx hu; subst hx; subst hu; exact .bool _
   | 7,_,hx,hu => simp at hx hu; subst hx; subst hu; exact .int _ _
   | 8,_,hx,hu => simp at hx hu; subst hx; subst hu; exact .int _ _
   | 9,_,hx,hu => simp at hx hu; subst hx; subst hu; exact .int _ _
   | 10,_,hx,hu =>
    simp at hx hu
    subst hx; subst hu
    have hm := List.mem_of_getElem? hy
    exact relP_sl.2 (Ns.mRel (h.inn y hm) (fun g hg => hA y hm g hg))
end Go.Proofs
namespace Go.Proofs
open Go.RowKit Go.Shelf Go.AL
attribute [local go_sem] Oper.semAt_some
theorem Ns.post_o {w : World} {A : Nat → Prop} {ty es : Nat} {τ : List Ty} {l : List (RowT τ)} {rds : List RD} {w' : World} {us : List Value} {β' : Nat → Option Nat} {A' : Nat → Prop}
  (hr : RessV [.o ty es τ] l rds) (h : PostR w A rds w' us β' A') : ∃ rows u,us = [u] ∧ RowsV τ l rows ∧ Below w.heap.size w w' ∧ (∀ b,b < w.heap.size → A b → A' b) ∧
   ((u = .slice none 0 0 ∧ rows = []) ∨ ∃ g cap cur,u = .slice (some ⟨g,0,none⟩) rows.length cap ∧ w.heap.size ≤ g ∧ A' g ∧ HB w' g ty cur ∧ rows.length ≤ cap ∧ cap ≤ maxLen ∧ cur.size = cap * es ∧ (∀ row ∈ rows,row.length = es) ∧
    ∀ (i : Nat) (row : List V),rows[i]? = some row → ∀ (j : Nat) (x : V),row[j]? = some x → ∃ v,cur[i * es + j]? = some v ∧ v.oneCell' = true ∧ RelP w' A' x v) := by
 obtain ⟨rd,rfl,rows,rfl,hrows⟩ := (hr : ∃ rd,rds = [rd] ∧ ∃ rows,rd = .o ty es rows ∧ RowsV τ l rows)
 have hl := h.len
 obtain ⟨u,rfl⟩ := List.length_eq_one_iff.1 (show us.length = 1 by simpa using hl)
 refine ⟨rows,u,rfl,hrows,ev_below' h.ev,h.a0,?_⟩
 obtain ⟨u',hu,hrel⟩ := h.rel 0 _ rfl
 simp at hu
 subst hu
 have h0 : rdH [RD.o ty es rows] 0 = some ⟨ty,es,false,rows⟩ := rfl
 have h1 := (hrel : RelA _ (.ref 0 rows.length) u) _ h0
 have h2 := h1.2 rfl
 have h3 := h.obs.ok 0 _ h0
 cases hb : β' 0 with
 | none =>
  simp only [hb] at h2 h3
  exact .inl ⟨h2,h3⟩
 | some g =>
  simp only [hb] at h2 h3
  obtain ⟨cap,cur,e1,e2,e3,e4,e5⟩ := h2
  obtain ⟨g1,cur',g2,g3,_,g4⟩ := h3
  have : cur' = cur := by simp only at e4 g2; rw [e4] at g2; simp at g2; exact g2.symm
  subst this
  exact .inr ⟨g,cap,cur',e1,h.own 0 _ g h0 hb,g1,e4,e2,e3,e5,g3,fun i row hi j x hj => by
   obtain ⟨v,c1,c2,_,c4⟩ := g4 i row hi j x hj
   exact ⟨v,c1,c2,c4 rfl⟩⟩
def ArgsAtA (w : World) (A : Nat → Prop) (ad : List AK) (a : ArgT ad) (us : Array Value) : Prop :=
 ∃ vargs,ArgsV ad a vargs ∧ us.size = vargs.length ∧ ∀ (i : Nat) (x : V),vargs[i]? = some x → ∃ u,us[i]? = some u ∧ Rel ⟨w,A,noH,noB⟩ x u
theorem Ns.callA {P : Program} {e : Ent} (h : e.Ok P) (a : ArgT e.ad) (hp : e.pre a = true) {w : World} {us : Array Value} {A : Nat → Prop} (hA : ∀ b,A b → b < w.heap.size) (ha : ArgsAtA w A e.ad a us) :
  Calls P e.g us w fun en w' => ∃ rds us' β' A',RessV e.rk (e.fn a) rds ∧ en = .returned (packV us') ∧ PostR w A rds w' us' β' A' := by
 obtain ⟨vargs,h1,h2,h3⟩ := ha
 exact (h a hp vargs h1).2 w A us hA h2 h3
theorem Ns.rd {w : World} {A : Nat → Prop} {τ : List Ty} {l : List (RowT τ)} {rows : List (List V)} {u : Value} (h1 : RowsV τ l rows) (h2 : SlAt w A (fun _ => False) rows u) : ArgsAtA w A [.rd τ] l #[u] :=
 ⟨[.rd rows],⟨_,rfl,rows,rfl,h1⟩,rfl,fun i y hy => by
  match i,hy with
  | 0,hy => simp at hy; subst hy; exact ⟨u,rfl,by
    have e : (Env.M ⟨w,A,noH,noB⟩) = fun _ => False := by funext b; simp [Env.M,noH]
    show SlAt w A (Env.M ⟨w,A,noH,noB⟩) rows u
    rw [e]; exact h2⟩
  | i + 1,hy => simp at hy⟩
theorem Cp.view {w : World} {A : Nat → Prop} {zs : List Int} {x : V} {v : Value} (hx : TyV (.sl [.int .i64]) zs x) (h : RelP w A x v) : (∃ a m c,v = .slice a m c) ∧ ArgsAt w [.rd [.int .i64]] zs #[v] := by
 rw [Ns.slV] at hx
 rcases hx with ⟨rfl,rfl⟩ | ⟨rows,rfl,hr⟩
 ·cases h
  exact ⟨⟨_,_,_,rfl⟩,Ns.rd (τ := [.int .i64]) (l := []) (rows := []) trivial (.inl ⟨⟨_,rfl⟩,rfl⟩)⟩
 ·have h1 := relP_sl.1 h
  refine ⟨?_,Ns.rd (τ := [.int .i64]) (l := zs) (rows := rows) hr (h1.frame (Agree.refl _ _) (Agree.refl _ _) (Nat.le_refl _) (fun _ _ h => h.elim) (fun _ _ h => h.elim))⟩
  rcases h1 with ⟨⟨a,rfl⟩,_⟩ | ⟨b,off,cap,es,f,rfl,_⟩ <;> exact ⟨_,_,_,rfl⟩
theorem Cp.own {w : World} {A : Nat → Prop} {l : List Int} {rds : List RD} {w' : World} {us : List Value} {β' : Nat → Option Nat} {A' : Nat → Prop}
  (hr : RessV [.o tyM 1 [.int .i64]] l rds) (h : PostR w A rds w' us β' A') : ∃ u,us = [u] ∧ Below w.heap.size w w' ∧ w'.ownsRow w.heap.size tyM 1 u l.length (Ns.ms l) := by
 obtain ⟨rows,u,rfl,hR,hB,_,hu⟩ := Ns.post_o hr h
 have hl : l.length = rows.length := All2.len hR
 have hml : (Ns.ms l).length = l.length * 1 := flat_len (f := Ns.m) (k := 1) (fun _ => rfl) l
 refine ⟨u,rfl,hB,hml,?_⟩
 rcases hu with ⟨rfl,rfl⟩ | ⟨g,cap,cur,rfl,h1,_,h2,h3,h4,h5,h6,h7⟩
 ·exact .inl ⟨rfl,by simpa using hl⟩
 ·refine .inr ⟨g,cap,cur,by rw [hl],h1,h2,by rw [hl]; exact h3,h4,h5,?_⟩
  apply List.ext_getElem?
  intro t
  by_cases ht : t < l.length * 1
  ·have hk : t / 1 < l.length := (Nat.div_lt_iff_lt_mul (by omega)).2 ht
   have hj : t % 1 < 1 := Nat.mod_lt _ (by omega)
   have he : t / 1 * 1 + t % 1 = t := by have := Nat.div_add_mod t 1; omega
   obtain ⟨y,hy⟩ : ∃ y,l[t / 1]? = some y := ⟨_,List.getElem?_eq_getElem hk⟩
   have hg := flat_get (f := Ns.m) (k := 1) (fun _ => rfl) l (t / 1) (t % 1) y hy hj
   rw [he] at hg
   obtain ⟨row,hrow,hy2⟩ := All2.get hR _ y hy
   have := Ns.mRow' hy2
   subst this
   obtain ⟨v,hv⟩ : ∃ v,(Ns.m y)[t % 1]? = some v := ⟨_,List.getElem?_eq_getElem hj⟩
   obtain ⟨u,c1,c2,c3⟩ := h7 _ _ hrow (t % 1) (V.ofCell v) (by rw [List.getElem?_map,hv]; rfl)
   rw [he] at c1
   rw [List.getElem?_take,if_pos ht,Array.getElem?_toList,c1]
   show _ = (Ns.ms l)[t]?
   rw [show (Ns.ms l)[t]? = _ from hg,hv]
   have hm : v ∈ Ns.m y := List.mem_of_getElem? hv
   simp only [Ns.m,List.mem_cons,List.not_mem_nil,or_false] at hm
   rcases hm with rfl
   cases c3; rfl
  ·rw [List.getElem?_eq_none (by rw [List.length_take]; omega),List.getElem?_eq_none (by omega)]
theorem Cp.tcl (w : World) (u : Value) (ts : List SDs) (hok : ts.length ≤ 1000) {A : Nat → Prop} (hA : ∀ b,A b → b < w.heap.size) (ha : ArgsAtA w A [.rd tSDs] ts #[u]) :
  Calls Try.prog 57 #[u] w fun en w' => ∃ ad cap rows A',en = .returned (.slice ad (ts.length : Nat) cap) ∧ RowsV tSDs ts rows ∧ Below w.heap.size w w' ∧ (∀ b,b < w.heap.size → A b → A' b) ∧
   ((ad = none ∧ cap = 0 ∧ ts = []) ∨ ∃ g cur,ad = some ⟨g,0,none⟩ ∧ w.heap.size ≤ g ∧ A' g ∧ HB w' g tyP cur ∧ ts.length ≤ cap ∧ cap ≤ maxLen ∧ cur.size = cap * 11 ∧ (∀ row ∈ rows,row.length = 11) ∧
    ∀ (i : Nat) (row : List V),rows[i]? = some row → ∀ (j : Nat) (x : V),row[j]? = some x → ∃ v,cur[i * 11 + j]? = some v ∧ v.oneCell' = true ∧ RelP w' A' x v) :=
 (Ns.callA E_dcl_ok ts (decide_eq_true (show ts.length ≤ 1099511627776 by omega)) hA ha).mono fun en w' ⟨rds,us,β',A',hr,he,hpost⟩ => by
  obtain ⟨rows,u1,rfl,hR,hB1,hA0,hu⟩ := Ns.post_o hr hpost
  have hl : ts.length = rows.length := All2.len hR
  rcases hu with ⟨rfl,rfl⟩ | ⟨g,cap,cur,rfl,h1,h2,h3,h4,h5⟩
  ·have hts : ts = [] := List.eq_nil_of_length_eq_zero (by simpa using hl)
   exact ⟨none,0,[],A',by rw [hl]; exact he,hR,hB1,hA0,.inl ⟨rfl,rfl,hts⟩⟩
  ·exact ⟨some ⟨g,0,none⟩,cap,rows,A',by rw [hl]; exact he,hR,hB1,hA0,.inr ⟨g,cur,rfl,h1,h2,h3,by rw [hl]; exact h4,h5⟩⟩
theorem Cp.mcl (w : World) (v : Value) (l : List Int) (hl : len40n l = true) (ha : ArgsAt w [.rd [.int .i64]] l #[v]) :
  Calls Try.prog 58 #[v] w fun en w' => ∃ a c,en = .returned (.slice a (l.length : Nat) c) ∧ Below w.heap.size w w' ∧ w'.ownsRow w.heap.size tyM 1 (.slice a (l.length : Nat) c) l.length (Ns.ms l) :=
 (Ns.call E_icl_ok l hl ha).mono fun en w' ⟨rds,us,β',A',hr,he,hpost⟩ => by
  obtain ⟨u1,rfl,hB1,hu⟩ := Cp.own hr hpost
  obtain ⟨a,c,rfl⟩ : ∃ a c,u1 = .slice a (l.length : Nat) c := by
   rcases hu.2 with ⟨rfl,h0⟩ | ⟨g,cap,cur,rfl,_⟩
   ·exact ⟨none,0,by rw [show l.length = 0 from h0]⟩
   ·exact ⟨_,_,rfl⟩
  exact ⟨a,c,he,hB1,hu⟩
structure Cp.Mid (n0 : Nat) (w w1 wr : World) (g cap : Nat) (C0 : Array Value) (ts : List SDs) (k : Nat) (C : Array Value) (R : List (SDs × Value)) : Prop where
 hb : HB wr g tyP C
 sz : C.size = cap * 11
 fst : R.map Prod.fst = ts.take k
 len : R.length = k
 done : ∀ (i : Nat) (p : SDs × Value),R[i]? = some p → ∀ j,j < 11 → C[i * 11 + j]? = (Ns.p p)[j]?
 rest : ∀ j,k * 11 ≤ j → C[j]? = C0[j]?
 inn : ∀ p ∈ R,wr.ownsRow n0 tyM 1 p.2 (ups p.1).length (Ns.ms (ups p.1))
 ne : ∀ p ∈ R,∀ b,p.2.ownBlock = some b → b ≠ g
 dis : R.Pairwise fun p q => ∀ b,p.2.ownBlock = some b → q.2.ownBlock ≠ some b
 ev1 : Ev w1 wr (fun b => b = g)
 bel : Below w.heap.size w wr
 nle : n0 ≤ w1.heap.size
theorem Cp.Mid.next {n0 : Nat} {w w1 wr : World} {g cap : Nat} {C0 : Array Value} {ts : List SDs} {k : Nat} {C : Array Value} {R : List (SDs × Value)} (h : Cp.Mid n0 w w1 wr g cap C0 ts k C R) (hg : w.heap.size ≤ g) (hgl : g < w1.heap.size)
  {t : SDs} (ht : ts[k]? = some t) (hrow : (∀ j v,j < 10 → C0[k * 11 + j]? = (Ns.p (t,v))[j]?) ∧ k * 11 + 10 < C0.size) {w2 : World} {v : Value} (hB : Below wr.heap.size wr w2)
  (hv : w2.ownsRow wr.heap.size tyM 1 v (ups t).length (Ns.ms (ups t))) :
  Cp.Mid n0 w w1 (w2.setCell ⟨g,k * 11 + 10,none⟩ v) g cap C0 ts (k + 1) (C.setIfInBounds (k * 11 + 10) v) (R ++ [(t,v)]) := by
 have h1 := h.ev1.size
 have h2 := h.bel.size
 have h3 := hB.size
 have h4 := h.nle
 have hset : ∀ j,j ≠ k * 11 + 10 → (C.setIfInBounds (k * 11 + 10) v)[j]? = C[j]? := fun j hj => by rw [Array.getElem?_setIfInBounds]; split <;> first | omega | rfl
 have hk3 : k * 11 + 10 < C.size := by
  have := h.rest (k * 11 + 10) (by omega)
  rw [Array.getElem?_eq_getElem hrow.2] at this
  exact (Array.getElem?_eq_some_iff.1 this).1
 have evB : Ev wr (w2.setCell ⟨g,k * 11 + 10,none⟩ v) (fun b => b = g) := ⟨hB.os,hB.tape,hB.output,by simpa [World.setCell] using h3,fun q hq hne => (Below.heap_setCell w2 ⟨g,k * 11 + 10,none⟩ v q hne).trans (hB.block q hq)⟩
 have ev2 : Ev w2 (w2.setCell ⟨g,k * 11 + 10,none⟩ v) (fun b => b = g) := ⟨rfl,rfl,rfl,by simp [World.setCell],fun q hq hne => Below.heap_setCell w2 ⟨g,k * 11 + 10,none⟩ v q hne⟩
 have hvb : ∀ b,v.ownBlock = some b → wr.heap.size ≤ b := fun b hb => (Own.lt hv hb).1
 have hRb : ∀ p ∈ R,∀ b,p.2.ownBlock = some b → b < wr.heap.size := fun p hp b hb => (Own.lt (h.inn p hp) hb).2
 refine ⟨(h.hb.below hB (by omega)).set _ _,by rw [Array.size_setIfInBounds]; exact h.sz,?_,by simp [h.len],fun i p hp j hj => ?_,fun j hj => ?_,fun p hp => ?_,fun p hp b hb => ?_,?_,?_,?_,h.nle⟩
 ·rw [List.map_append,h.fst,List.take_add_one,ht]; rfl
 ·by_cases hi : i < k
  ·rw [List.getElem?_append_left (by rw [h.len]; exact hi)] at hp
   rw [hset _ (by omega)]
   exact h.done i p hp j hj
  ·rw [List.getElem?_append_right (by rw [h.len]; omega),h.len] at hp
   have hik : i - k = 0 := by
    have := (List.getElem?_eq_some_iff.1 hp).1
    simp at this; omega
   rw [hik] at hp
   simp at hp
   subst hp
   have : i = k := by omega
   subst this
   by_cases hj10 : j < 10
   ·rw [hset _ (by omega),h.rest _ (by omega)]; exact hrow.1 j v hj10
   ·have : j = 10 := by omega
    subst this
    rw [Array.getElem?_setIfInBounds,if_pos rfl,if_pos hk3]; rfl
 ·rw [hset _ (by omega)]; exact h.rest j (by omega)
 ·rcases List.mem_append.1 hp with hp | hp
  ·exact Own.ev (h.inn p hp) evB (h.ne p hp)
  ·rw [List.mem_singleton.1 hp]
   have h9 : w2.ownsRow n0 tyM 1 v (ups t).length (Ns.ms (ups t)) := ⟨hv.1,hv.2.imp id fun ⟨g',c',cu,e1,e2,e3⟩ => ⟨g',c',cu,e1,by omega,e3⟩⟩
   exact Own.ev h9 ev2 (fun b hb e => by have := hvb b hb; omega)
 ·rcases List.mem_append.1 hp with hp | hp
  ·exact h.ne p hp b hb
  ·rw [List.mem_singleton.1 hp] at hb
   have := hvb b hb; omega
 ·refine List.pairwise_append.2 ⟨h.dis,List.pairwise_singleton _ _,fun p hp q hq b hb hb2 => ?_⟩
  rw [List.mem_singleton.1 hq] at hb2
  have := hvb b hb2
  have := hRb p hp b hb
  omega
 ·refine ⟨evB.os.trans h.ev1.os,evB.tape.trans h.ev1.tape,evB.output.trans h.ev1.output,Nat.le_trans h1 evB.size,fun q hq hne => (evB.block q (by omega) hne).trans (h.ev1.block q hq hne)⟩
 ·exact (h.bel.trans (hB.mono h2)).trans (ev_below_n ev2 (fun b hb => by omega) (by omega))
theorem Cp.Mid.nest {n0 : Nat} {w w1 wr : World} {g cap : Nat} {C0 : Array Value} {ts : List SDs} {C : Array Value} {R : List (SDs × Value)} (h : Cp.Mid n0 w w1 wr g cap C0 ts ts.length C R) (hg : n0 ≤ g) (hc : ts.length ≤ cap) (hm : cap ≤ maxLen) :
  R.map Prod.fst = ts ∧ Nest wr n0 (.slice (some ⟨g,0,none⟩) (ts.length : Nat) cap) R := by
 have hp11 : (Ns.ps R).length = R.length * 11 := flat_len (f := Ns.p) (k := 11) (fun _ => rfl) R
 refine ⟨by rw [h.fst,List.take_length],⟨⟨hp11,.inr ⟨g,cap,C,by rw [h.len],hg,h.hb,by rw [h.len]; exact hc,hm,h.sz,?_⟩⟩,h.inn,fun p hp b hb e => ?_,h.dis⟩⟩
 ·apply List.ext_getElem?
  intro t
  by_cases ht : t < R.length * 11
  ·have hk : t / 11 < R.length := (Nat.div_lt_iff_lt_mul (by omega)).2 ht
   have hj : t % 11 < 11 := Nat.mod_lt _ (by omega)
   have he : t / 11 * 11 + t % 11 = t := by have := Nat.div_add_mod t 11; omega
   obtain ⟨y,hy⟩ : ∃ y,R[t / 11]? = some y := ⟨_,List.getElem?_eq_getElem hk⟩
   have hg := flat_get (f := Ns.p) (k := 11) (fun _ => rfl) R (t / 11) (t % 11) y hy hj
   have hd := h.done _ y hy _ hj
   rw [he] at hg hd
   rw [List.getElem?_take,if_pos ht,Array.getElem?_toList,hd]
   exact hg.symm
  ·rw [List.getElem?_eq_none (by rw [List.length_take]; omega),List.getElem?_eq_none (by omega)]
 ·simp [Value.ownBlock] at e
  exact h.ne p hp b hb e.symm
abbrev Nc.s (n v : Int) (u : Value) : Array Value := #[.int .i64 n,.int .i64 v,u]
abbrev tyS : TypeId := 26
theorem Nc.row {w1 : World} {A' : Nat → Prop} {ts : List SDs} {rows : List (List V)} {C0 : Array Value} (hR : RowsV tSDs ts rows)
  (hcell : ∀ (i : Nat) (row : List V),rows[i]? = some row → ∀ (j : Nat) (x : V),row[j]? = some x → ∃ v,C0[i * 11 + j]? = some v ∧ v.oneCell' = true ∧ RelP w1 A' x v) (k : Nat) (t : SDs) (ht : ts[k]? = some t) :
  ((∀ j v,j < 10 → C0[k * 11 + j]? = (Ns.p (t,v))[j]?) ∧ k * 11 + 10 < C0.size) ∧ ∃ v x,C0[k * 11 + 10]? = some v ∧ TyV (.sl [.int .i64]) (ups t) x ∧ RelP w1 A' x v := by
 obtain ⟨row,hrow,hR2⟩ := All2.get hR k t ht
 rw [Ns.pRow] at hR2
 obtain ⟨v0,r0,rfl,rfl,v1,r1,rfl,rfl,v2,r2,rfl,rfl,v3,r3,rfl,rfl,v4,r4,rfl,rfl,v5,r5,rfl,rfl,v6,r6,rfl,rfl,v7,r7,rfl,rfl,v8,r8,rfl,rfl,v9,r9,rfl,rfl,v10,rfl,h10⟩ := hR2
 obtain ⟨c0,a0,_,b0⟩ := hcell k _ hrow 0 _ rfl
 obtain ⟨c1,a1,_,b1⟩ := hcell k _ hrow 1 _ rfl
 obtain ⟨c2,a2,_,b2⟩ := hcell k _ hrow 2 _ rfl
 obtain ⟨c3,a3,_,b3⟩ := hcell k _ hrow 3 _ rfl
 obtain ⟨c4,a4,_,b4⟩ := hcell k _ hrow 4 _ rfl
 obtain ⟨c5,a5,_,b5⟩ := hcell k _ hrow 5 _ rfl
 obtain ⟨c6,a6,_,b6⟩ := hcell k _ hrow 6 _ rfl
 obtain ⟨c7,a7,_,b7⟩ := hcell k _ hrow 7 _ rfl
 obtain ⟨c8,a8,_,b8⟩ := hcell k _ hrow 8 _ rfl
 obtain ⟨c9,a9,_,b9⟩ := hcell k _ hrow 9 _ rfl
 obtain ⟨c10,a10,_,b10⟩ := hcell k _ hrow 10 _ rfl
 cases b0; cases b1; cases b2; cases b3; cases b4; cases b5; cases b6; cases b7; cases b8; cases b9
 refine ⟨⟨fun j v hj => ?_,(Array.getElem?_eq_some_iff.1 a10).1⟩,c10,v10,a10,h10,b10⟩
 match j,hj with
 | 0,_ => exact a0
 | 1,_ => exact a1
 | 2,_ => exact a2
 | 3,_ => exact a3
 | 4,_ => exact a4
 | 5,_ => exact a5
 | 6,_ => exact a6
 | 7,_ => exact a7
 | 8,_ => exact a8
 | 9,_ => exact a9
end Go.Proofs
namespace Go.Proofs
open Go.RowKit Go.Shelf Go.AL
attribute [local go_sem] Oper.semAt_some
theorem Nc.res {W : World} {B : Nat} {n v : Int} {u : Value} {tmps : Array Value} (h2 : tmps[2]? = some (.pointer (some ⟨B,0,none⟩))) (hb : HB W B tyS (Nc.s n v u)) :
  (results Try.f37 tmps).run Try.prog W = .ok (.agg (Nc.s n v u)) W := by
 have c0 := hb.cell 0
 have c1 := hb.cell 1
 have c2 := hb.cell 2
 simp [results,Try.f37,go_sem,h2,c0,c1,c2]
theorem own_mono {W : World} {n0 n1 e k : Nat} {v : Value} {n : Nat} {xs : List Value} (h : W.ownsRow n0 e k v n xs) (hn : n1 ≤ n0) : W.ownsRow n1 e k v n xs :=
 ⟨h.1,h.2.imp id fun ⟨g',c',cu,e1,e2,e3⟩ => ⟨g',c',cu,e1,Nat.le_trans hn e2,e3⟩⟩
theorem Nest.mono {W : World} {n0 n1 : Nat} {out : Value} {R : List (SDs × Value)} (h : Nest W n0 out R) (hn : n1 ≤ n0) : Nest W n1 out R :=
 ⟨own_mono h.own hn,fun p hp => own_mono (h.inn p hp) hn,h.ne,h.dis⟩
theorem Nc.store3 {W : World} {B : Nat} {t : TypeId} {x y z : Value} (h : HB W B t #[x,y,z]) (x' y' z' : Value) : HB (((W.setCell ⟨B,0,none⟩ x').setCell ⟨B,1,none⟩ y').setCell ⟨B,2,none⟩ z') B t #[x',y',z'] := ((h.set 0 x').set 1 y').set 2 z'
theorem Nc.below3 {W : World} {n0 B : Nat} (h : n0 ≤ B) (x' y' z' : Value) : Below n0 W (((W.setCell ⟨B,0,none⟩ x').setCell ⟨B,1,none⟩ y').setCell ⟨B,2,none⟩ z') :=
 (((Below.refl n0 W).setCell (p := ⟨B,0,none⟩) h x').setCell (p := ⟨B,1,none⟩) h y').setCell (p := ⟨B,2,none⟩) h z'
theorem Nc.ev3 {W : World} {B : Nat} (x' y' z' : Value) : Ev W (((W.setCell ⟨B,0,none⟩ x').setCell ⟨B,1,none⟩ y').setCell ⟨B,2,none⟩ z') (fun b => b = B) :=
 ⟨rfl,rfl,rfl,by simp [World.setCell],fun q hq hne => (Below.heap_setCell _ ⟨B,2,none⟩ z' q hne).trans ((Below.heap_setCell _ ⟨B,1,none⟩ y' q hne).trans (Below.heap_setCell _ ⟨B,0,none⟩ x' q hne))⟩
set_option maxRecDepth 100000 in
set_option maxHeartbeats 2000000 in
theorem Nc.calls (w : World) (n v : Int) (u : Value) (ts : List SDs) (hlen : ts.length ≤ 1000) (hup : ∀ d ∈ ts,(ups d).length ≤ 1000) {A : Nat → Prop} (hA : ∀ b,A b → b < w.heap.size) {rows0 : List (List V)} (hR0 : RowsV tSDs ts rows0) (hs0 : SlAt w A A rows0 u) (hu1 : u.oneCell' = true) :
  Calls Try.prog 37 #[.agg (Nc.s n v u)] w fun en w' => ∃ out R,en = .returned (.agg (Nc.s n v out)) ∧ R.map Prod.fst = ts ∧ Nest w' w.heap.size out R ∧ Below w.heap.size w w' := by
 have hu1t := Try.underlying26
 have hu2t := Try.underlying24
 have hu3t := Try.underlying53
 have hu4t := Try.underlying22
 have hB0 : Below w.heap.size w ((w.alloc (.cells (Nc.s n v u) tyS)).alloc (.cells #[.int .i64 0,.int .i64 0,.slice none 0 0] tyS)) := ((Below.refl _ w).alloc (Nat.le_refl _) _).alloc (by simp) _
 have b1 : HB ((w.alloc (.cells (Nc.s n v u) tyS)).alloc (.cells #[.int .i64 0,.int .i64 0,.slice none 0 0] tyS)) w.heap.size tyS (Nc.s n v u) := (HB.new w tyS (Nc.s n v u)).alloc _
 have b2 : HB ((w.alloc (.cells (Nc.s n v u) tyS)).alloc (.cells #[.int .i64 0,.int .i64 0,.slice none 0 0] tyS)) (w.heap.size + 1) tyS #[.int .i64 0,.int .i64 0,.slice none 0 0] := by
  have := HB.new (w.alloc (.cells (Nc.s n v u) tyS)) tyS #[.int .i64 0,.int .i64 0,.slice none 0 0]
  rwa [World.size_alloc] at this
 have hsz0 : ((w.alloc (.cells (Nc.s n v u) tyS)).alloc (.cells #[.int .i64 0,.int .i64 0,.slice none 0 0] tyS)).heap.size = w.heap.size + 2 := by simp
 have hs1 : SlAt ((w.alloc (.cells (Nc.s n v u) tyS)).alloc (.cells #[.int .i64 0,.int .i64 0,.slice none 0 0] tyS)) (fun b => A b ∨ b = w.heap.size ∨ b = w.heap.size + 1) (fun _ => False) rows0 u := hs0.frame (fun b hb _ => hB0.block b hb) (fun b hb _ => hB0.block b hb) (by omega) (fun b hb h => by rcases h with h | h | h; exact h; omega; omega) (fun _ _ h => h.elim)
 have hA1 : ∀ b,(A b ∨ b = w.heap.size ∨ b = w.heap.size + 1) → b < ((w.alloc (.cells (Nc.s n v u) tyS)).alloc (.cells #[.int .i64 0,.int .i64 0,.slice none 0 0] tyS)).heap.size := fun b h => by
  rcases h with h | h | h
  ·have := hA b h; omega
  ·omega
  ·omega
 have hcl := Cp.tcl ((w.alloc (.cells (Nc.s n v u) tyS)).alloc (.cells #[.int .i64 0,.int .i64 0,.slice none 0 0] tyS)) u ts hlen hA1 (Ns.rd (τ := tSDs) hR0 hs1)
 go_enter Try.func37,Try.ntmps37
 go_wp2_with (go_at_call 57; refine hcl.mono ?_; clear hcl; rintro en w1 ⟨ad,cap,rows,A',rfl,hR,hB1,hA0,hu⟩; have d1 := b1.below hB1 (by omega); have d2 := b2.below hB1 (by omega); have f1 := d1.frozen 2; have c1 : w1.cell? ⟨w.heap.size,2,none⟩ = some u := d1.cell 2; have e1 : HB (w1.setCell ⟨w.heap.size,2,none⟩ (.slice ad (ts.length : Nat) cap)) w.heap.size tyS (Nc.s n v (.slice ad (ts.length : Nat) cap)) := d1.set 2 _; have e2 := d2.other (B' := w.heap.size) (by omega) 2 (.slice ad (ts.length : Nat) cap); have c2 : (w1.setCell ⟨w.heap.size,2,none⟩ (.slice ad (ts.length : Nat) cap)).cell? ⟨w.heap.size,2,none⟩ = some (.slice ad (ts.length : Nat) cap) := e1.cell 2)
 have hBw : Below w.heap.size w (w1.setCell ⟨w.heap.size,2,none⟩ (.slice ad (ts.length : Nat) cap)) := (hB0.trans (hB1.mono (by omega))).setCell (p := ⟨w.heap.size,2,none⟩) (Nat.le_refl _) _
 have hev : Ev w1 (w1.setCell ⟨w.heap.size,2,none⟩ (.slice ad (ts.length : Nat) cap)) (fun b => b = w.heap.size) := ⟨rfl,rfl,rfl,by simp [World.setCell],fun q hq hne => Below.heap_setCell w1 ⟨w.heap.size,2,none⟩ _ q hne⟩
 have hs1 : w.heap.size + 2 ≤ w1.heap.size := by have := hB1.size; omega
 have hs2 : (w1.setCell ⟨w.heap.size,2,none⟩ (.slice ad (ts.length : Nat) cap)).heap.size = w1.heap.size := by simp [World.setCell]
 generalize w1.setCell ⟨w.heap.size,2,none⟩ (.slice ad (ts.length : Nat) cap) = W1 at *
 clear b1 b2 d1 d2 f1 c1 c2 hs1 hB0
 rcases hu with ⟨rfl,rfl,rfl⟩ | ⟨g,C0,rfl,hg,hAg,hb,hc,hm,hs,h4,hcell⟩
 ·go_loopw [11] (fun i wr => i = .int .i64 0 ∧ wr = W1) (fun _ _ => 0)
  case atStart => exact ⟨rfl,rfl⟩
  case round =>
   obtain ⟨rfl,rfl⟩ := hrel
   have c0 := e1.cell 0
   have c1 := e1.cell 1
   have c2 := e1.cell 2
   have k0 := e2.cell 0
   have k1 := e2.cell 1
   have k2 := e2.cell 2
   have f0 := e2.frozen 0
   have f1 := e2.frozen 1
   have f2 := e2.frozen 2
   go_wp2
   exact ⟨rfl,_,Nc.res rfl (Nc.store3 e2 _ _ _),_,[],rfl,rfl,⟨⟨rfl,.inl ⟨rfl,rfl⟩⟩,fun p hp => (by cases hp),fun p hp => (by cases hp),.nil⟩,hBw.trans (Nc.below3 (by omega) _ _ _)⟩
 ·have hb1 : HB W1 g tyP C0 := hb.ev hev (by omega)
  have hgl : g < W1.heap.size := hb1.lt
  have hrow : ∀ (k : Nat) (t : SDs),ts[k]? = some t → ((∀ j v,j < 10 → C0[k * 11 + j]? = (Ns.p (t,v))[j]?) ∧ k * 11 + 10 < C0.size) ∧ ∃ v x,C0[k * 11 + 10]? = some v ∧ TyV (.sl [.int .i64]) (ups t) x ∧ RelP W1 A' x v := fun k t ht => by
   obtain ⟨r1,v,x,r2,r3,r4⟩ := Nc.row hR hcell k t ht
   exact ⟨r1,v,x,r2,r3,r4.frame (fun b hb hn => hev.block b hb (fun e => hn (by rw [e]; exact hA0 _ (by omega) (.inr (.inl rfl))))) hev.size (fun _ _ h => h)⟩
  go_loopw [11] (fun i wr => ∃ (k : Nat) (C : Array Value) (R : List (SDs × Value)),k ≤ ts.length ∧ i = .int .i64 (k : Int) ∧ Cp.Mid (w.heap.size + 2) w W1 wr g cap C0 ts k C R) (fun i _ => ts.length - (intOf i).toNat)
  case atStart => exact ⟨0,C0,[],Nat.zero_le _,rfl,⟨hb1,hs,rfl,rfl,fun i p hp => by simp at hp,fun j _ => rfl,fun p hp => (by cases hp),fun p hp => (by cases hp),.nil,⟨rfl,rfl,rfl,Nat.le_refl _,fun _ _ _ => rfl⟩,hBw,by omega⟩⟩
  case round =>
   obtain ⟨k,C,R,hk,rfl,hM⟩ := hrel
   have m1 := e1.ev hM.ev1 (by omega)
   have m2 := e2.ev hM.ev1 (by omega)
   have c2 := m1.cell 2
   by_cases hlt : k < ts.length
   ·obtain ⟨t,ht⟩ : ∃ t,ts[k]? = some t := ⟨_,List.getElem?_eq_getElem hlt⟩
    obtain ⟨hr3,v,x,hv,hx,hrel⟩ := hrow k t ht
    have hx2 : RelP wr.drew (fun b => b = g) x v := hrel.frame (w' := wr.drew) (fun b hb hn => hM.ev1.block b hb (fun e => hn (by rw [e]; exact hAg))) hM.ev1.size (fun b _ e => by rw [e]; exact hAg)
    obtain ⟨⟨va,vm,vc,rfl⟩,hargs⟩ := Cp.view hx hx2
    have hk0 : (0 : Int) ≤ (k : Int) := by omega
    have hk1 : (k : Int) < (ts.length : Int) := by omega
    have hcl : wr.cell? ⟨g,k * 11 + 10,none⟩ = some (.slice va vm vc) := (hM.hb.cell _).trans ((hM.rest _ (by omega)).trans hv)
    have hlm : len40n (ups t) = true := decide_eq_true (show (ups t).length ≤ 1099511627776 by have := hup t (List.mem_of_getElem? ht); omega)
    have hlast : ∀ {w2 : World} {va2 : Option Addr} {vc2 : Nat},Below wr.heap.size wr.drew w2 → w2.ownsRow wr.heap.size tyM 1 (.slice va2 ((ups t).length : Nat) vc2) (ups t).length (Ns.ms (ups t)) → Cp.Mid (w.heap.size + 2) w W1 (w2.setCell ⟨g,k * 11 + 10,none⟩ (.slice va2 ((ups t).length : Nat) vc2)) g cap C0 ts (k + 1) (C.setIfInBounds (k * 11 + 10) (.slice va2 ((ups t).length : Nat) vc2)) (R ++ [(t,.slice va2 ((ups t).length : Nat) vc2)]) := fun hB2 hv2 => hM.next (by omega) hgl ht hr3 ⟨hB2.os,hB2.tape,hB2.output,hB2.size,hB2.block⟩ hv2
    have hst : ∀ {w2 : World},Below wr.heap.size wr.drew w2 → w2.frozen? ⟨g,k * 11 + 10,none⟩ = false ∧ w2.cell? ⟨g,k * 11 + 10,none⟩ = some (.slice va vm vc) ∧ w2.cell? ⟨w.heap.size,2,none⟩ = some (.slice (some ⟨g,0,none⟩) (ts.length : Nat) cap) ∧ ∀ v2,(w2.setCell ⟨g,k * 11 + 10,none⟩ v2).cell? ⟨w.heap.size,2,none⟩ = some (.slice (some ⟨g,0,none⟩) (ts.length : Nat) cap) := fun hB2 => by
     have hB2 : Below wr.heap.size wr _ := ⟨hB2.os,hB2.tape,hB2.output,hB2.size,hB2.block⟩
     have b2 := hM.hb.below hB2 hM.hb.lt
     exact ⟨b2.frozen _,(b2.cell _).trans ((hM.rest _ (by omega)).trans hv),((m1.below hB2 m1.lt).cell 2),fun v2 => ((m1.below hB2 m1.lt).other (B' := g) (by omega) _ v2).cell 2⟩
    have hcall := Cp.mcl wr.drew _ (ups t) hlm hargs
    clear hB1 hA0 hev hargs hx hx2 hrel hr3 hv hM hrow
    go_wp2
    go_region_with (first | (go_at_call 58; refine hcall.mono ?_; rintro en w2 ⟨va2,vc2,rfl,hB2,hv2⟩; obtain ⟨f2,k2,k3,k4⟩ := hst hB2))
    all_goals go_wp2
    all_goals exact ⟨⟨k + 1,_,_,by omega,by congr 1,hlast hB2 hv2⟩,by simp [intOf]; omega⟩
   ·obtain rfl : k = ts.length := by omega
    have c0 := m1.cell 0
    have c1 := m1.cell 1
    have k0 := m2.cell 0
    have k1 := m2.cell 1
    have k2 := m2.cell 2
    have f0 := m2.frozen 0
    have f1 := m2.frozen 1
    have f2 := m2.frozen 2
    obtain ⟨q1,q2⟩ := hM.nest (by omega) hc hm
    go_wp2
    exact ⟨rfl,_,Nc.res rfl (Nc.store3 m2 _ _ _),_,R,rfl,q1,(q2.ev (Nc.ev3 _ _ _) (fun b h1 _ h => by omega)).mono (by omega),hM.bel.trans (Nc.below3 (by omega) _ _ _)⟩
end Go.Proofs
namespace Go.Proofs
open Go.RowKit Go.Shelf Go.AL
attribute [local go_sem] Oper.semAt_some
theorem Np.set {d d' : SDs} {x x' : Value} (hd : ∀ v,Ns.p (d',v) = Ns.p (d,v)) : ∀ (R : List (SDs × Value)) (k : Nat),R[k]? = some (d,x) → (Ns.ps R).set (k * 11 + 10) x' = Ns.ps (R.set k (d',x'))
 | [],k,h => by simp at h
 | y :: R,0,h => by
  simp at h
  subst h
  show (Ns.p (d,x) ++ Ns.ps R).set 10 x' = Ns.p (d',x') ++ Ns.ps R
  rw [hd x']
  rfl
 | y :: R,k + 1,h => by
  show (Ns.p y ++ Ns.ps R).set ((k + 1) * 11 + 10) x' = Ns.p y ++ Ns.ps (R.set k (d',x'))
  rw [List.set_append_right _ _ (show (Ns.p y).length ≤ (k + 1) * 11 + 10 by show 11 ≤ _; omega),← Np.set hd R k (by simpa using h)]
  congr 2
  show (k + 1) * 11 + 10 - 11 = _
  omega
theorem Np.put {W W' : World} {n0 go cap : Nat} {R : List (SDs × Value)} (h : Nest W n0 (.slice (some ⟨go,0,none⟩) (R.length : Nat) cap) R) {k : Nat} {d d' : SDs} {x x' : Value} (hk : R[k]? = some (d,x)) (hd : ∀ v,Ns.p (d',v) = Ns.p (d,v))
  (hx' : W'.ownsRow n0 tyM 1 x' (ups d').length (Ns.ms (ups d'))) (hev : Ev W W' (fun b => x.ownBlock = some b)) (hfr : ∀ b,x'.ownBlock = some b → x.ownBlock = some b ∨ W.heap.size ≤ b) :
  Nest (W'.setCell ⟨go,k * 11 + 10,none⟩ x') n0 (.slice (some ⟨go,0,none⟩) (R.length : Nat) cap) (R.set k (d',x')) := by
 have hmem := List.mem_of_getElem? hk
 have hgo := Own.lt h.own (g := go) rfl
 have ev2 : Ev W' (W'.setCell ⟨go,k * 11 + 10,none⟩ x') (fun b => b = go) := ⟨rfl,rfl,rfl,by simp [World.setCell],fun q hq hne => Below.heap_setCell W' ⟨go,k * 11 + 10,none⟩ x' q hne⟩
 have hxg : ∀ b,x.ownBlock = some b → b ≠ go := fun b hb e => h.ne _ hmem b hb (by rw [e]; rfl)
 have hx'g : ∀ b,x'.ownBlock = some b → b ≠ go := fun b hb e => by
  rcases hfr b hb with h1 | h1
  ·exact hxg b h1 e
  ·omega
 have hget : ∀ (i : Nat) (p : SDs × Value),(R.set k (d',x'))[i]? = some p → (i = k ∧ p = (d',x')) ∨ (i ≠ k ∧ R[i]? = some p) := fun i p hi => by
  by_cases e : i = k
  ·subst e
   have hlt := (List.getElem?_eq_some_iff.1 hk).1
   rw [List.getElem?_set_self hlt] at hi
   exact .inl ⟨rfl,(Option.some.inj hi).symm⟩
  ·rw [List.getElem?_set_ne (Ne.symm e)] at hi
   exact .inr ⟨e,hi⟩
 have hdis : ∀ (i j : Nat) (p q : SDs × Value),R[i]? = some p → R[j]? = some q → i ≠ j → ∀ g,p.2.ownBlock = some g → q.2.ownBlock ≠ some g := fun i j p q hi hj hne g hp hq => by
  have hd := List.pairwise_iff_getElem.1 h.dis
  obtain ⟨i1,rfl⟩ := List.getElem?_eq_some_iff.1 hi
  obtain ⟨j1,rfl⟩ := List.getElem?_eq_some_iff.1 hj
  rcases Nat.lt_or_gt_of_ne hne with hlt | hlt
  ·exact hd i j i1 j1 hlt g hp hq
  ·exact hd j i j1 i1 hlt g hq hp
 refine ⟨?_,fun p hp => ?_,fun p hp g hg e => ?_,?_⟩
 ·have h1 := Own.ev h.own hev (fun g hg hx => by
   cases hg
   exact hxg _ hx rfl)
  have h2 := (h1.stored (k * 11 + 10) x').1
  rw [Np.set hd R k hk] at h2
  rwa [List.length_set]
 ·obtain ⟨i,hi⟩ := List.mem_iff_getElem?.1 hp
  rcases hget i p hi with ⟨rfl,rfl⟩ | ⟨hne,hi⟩
  ·exact Own.ev hx' ev2 (fun g hg e => hx'g g hg e)
  ·exact Own.ev (Own.ev (h.inn p (List.mem_of_getElem? hi)) hev (fun g hg hx => hdis i k p (d,x) hi hk hne g hg hx)) ev2 (fun g hg e => h.ne p (List.mem_of_getElem? hi) g hg (by rw [e]; rfl))
 ·obtain ⟨i,hi⟩ := List.mem_iff_getElem?.1 hp
  cases e
  rcases hget i p hi with ⟨rfl,rfl⟩ | ⟨hne,hi⟩
  ·exact hx'g _ hg rfl
  ·exact h.ne p (List.mem_of_getElem? hi) _ hg rfl
 ·rw [List.pairwise_iff_getElem]
  intro i j hi hj hlt g hp hq
  have gi := hget i _ (List.getElem?_eq_getElem hi)
  have gj := hget j _ (List.getElem?_eq_getElem hj)
  have big : ∀ (m : Nat) (p : SDs × Value),R[m]? = some p → ∀ g,p.2.ownBlock = some g → g < W.heap.size := fun m p hm g hg => (Own.lt (h.inn p (List.mem_of_getElem? hm)) hg).2
  rcases gi with ⟨ei,ep⟩ | ⟨ni,gi⟩
  ·rcases gj with ⟨ej,eq⟩ | ⟨nj,gj⟩
   ·omega
   ·rw [ep] at hp
    rcases hfr g hp with h1 | h1
    ·exact hdis k j _ _ hk gj (Ne.symm nj) g h1 hq
    ·have := big j _ gj g hq; omega
  ·rcases gj with ⟨ej,eq⟩ | ⟨nj,gj⟩
   ·rw [eq] at hq
    rcases hfr g hq with h1 | h1
    ·exact hdis i k _ _ gi hk ni g hp h1
    ·have := big i _ gi g hp; omega
   ·exact hdis i j _ _ gi gj (by omega) g hp hq
end Go.Proofs
namespace Go.Proofs
open Go.RowKit Go.Shelf Go.AL
attribute [local go_sem] Oper.semAt_some
theorem Nq.infoI : (Try.prog.info? 3).map (fun i => (i.zero,i.size,i.bytes)) = some (some (.int .i64 0),1,8) := by kernel_rfl
def upcD (d : SDs) (e : Int) : SDs := (dId d,dW d,dPer d,dBud d,dBlk d,dDis d,dRem d,dDl d,dLft d,dPas d,ups d ++ [e])
set_option maxRecDepth 100000 in
set_option maxHeartbeats 2000000 in
theorem Nq.lit (w : World) (B Be : Nat) (n v e : Int) (n0 go cap : Nat) (R : List (SDs × Value)) (k : Nat) (d : SDs) (x : Value) (hB : HB w B tyS (Nc.s n v (.slice (some ⟨go,0,none⟩) (R.length : Nat) cap))) (hBe : HB w Be tyM #[.int .i64 e])
  (hN : Nest w n0 (.slice (some ⟨go,0,none⟩) (R.length : Nat) cap) R) (hk : R[k]? = some (d,x)) (hBo : B ≠ go) (hBx : x.ownBlock ≠ some B) (hBe1 : Be < n0) (hn0 : n0 ≤ w.heap.size) (hlen : (ups d).length ≤ 16)
  (Q : Ending → World → Prop) (q1 : e ≤ 0 → Q (.returned (.int .i64 1)) w) (q2 : ¬ e ≤ 0 → (ups d).length = 16 → Q (.returned (.int .i64 65)) w)
  (q3 : ∀ (W : World) (x' : Value),¬ e ≤ 0 → (ups d).length ≠ 16 → Below n0 w W → HB W B tyS (Nc.s n v (.slice (some ⟨go,0,none⟩) (R.length : Nat) cap)) → Nest W n0 (.slice (some ⟨go,0,none⟩) (R.length : Nat) cap) (R.set k (upcD d e,x')) → Q (.returned (.int .i64 0)) W) :
  Calls Try.prog 54 #[.pointer (some ⟨B,0,none⟩),.int .i64 (k : Int),.pointer (some ⟨Be,0,none⟩)] w Q := by
 have hu1t := Try.underlying26
 have hu2t := Try.underlying24
 have hu3t := Try.underlying53
 have hu4t := Try.underlying22
 have hmem := List.mem_of_getElem? hk
 have hkl := (List.getElem?_eq_some_iff.1 hk).1
 have hk0 : (0 : Int) ≤ (k : Int) := by omega
 have hk1 : (k : Int) < (R.length : Int) := by omega
 obtain ⟨va,vc,rfl⟩ : ∃ va vc,x = .slice va ((ups d).length : Nat) vc := by
  rcases (hN.inn _ hmem).2 with ⟨h1,h0⟩ | ⟨g,c,cur,h1,_⟩
  ·have h0 : (ups d).length = 0 := h0
   exact ⟨none,0,by rw [h0]; exact h1⟩
  ·exact ⟨_,_,h1⟩
 have hown := hN.inn _ hmem
 have hcx : w.cell? ⟨go,k * 11 + 10,none⟩ = some (.slice va ((ups d).length : Nat) vc) := by
  have h1 := flat_get (f := Ns.p) (k := 11) (fun _ => rfl) R k 10 _ hk (by omega)
  rw [hN.own.cellAt (k * 11 + 10) (by omega)]
  exact h1
 have cB2 := hB.cell 2
 have cBe := hBe.cell 0
 go_enter Try.func54,Try.ntmps54
 by_cases he : e ≤ 0
 ·have q1 := q1 he
  clear q2 q3
  go_wp2
 ·by_cases h16 : (ups d).length = 16
  ·have h16' : ((ups d).length : Int) = 16 := by omega
   have q2 := q2 he h16
   clear q1 q3
   go_wp2
   exact q2 (by omega) h16
  ·have h16' : ¬ ((ups d).length : Int) = 16 := by omega
   clear q1 q2
   have hst : ∀ {w2 : World},(w.alloc (.cells #[.int .i64 e] tyM)).drew.grownBy w2 (Value.slice va ((ups d).length : Nat) vc).ownBlock → Ev w w2 (fun b => (Value.slice va ((ups d).length : Nat) vc).ownBlock = some b) ∧ w2.frozen? ⟨go,k * 11 + 10,none⟩ = false ∧ w2.cell? ⟨go,k * 11 + 10,none⟩ = some (.slice va ((ups d).length : Nat) vc) := fun {w2} hg => by
    have hev : Ev w w2 (fun b => (Value.slice va ((ups d).length : Nat) vc).ownBlock = some b) := ⟨hg.os,hg.tape,hg.output,Nat.le_trans (by simp) hg.size,fun q hq hne => (hg.block q (Nat.lt_of_lt_of_le hq (by simp)) (Ne.symm hne)).trans (heap_alloc_old w _ hq)⟩
    have h1 := Own.ev hN.own hev (fun g hgo hx => hN.ne _ hmem g hx hgo)
    refine ⟨hev,h1.frozenAt _,?_⟩
    rw [h1.cellAt (k * 11 + 10) (by omega)]
    exact flat_get (f := Ns.p) (k := 11) (fun _ => rfl) R k 10 _ hk (by omega)
   have hfin : ∀ {w2 : World} {g2 c2 : Nat},Ev w w2 (fun b => (Value.slice va ((ups d).length : Nat) vc).ownBlock = some b) → w2.ownsRow n0 tyM 1 (.slice (some ⟨g2,0,none⟩) ((ups d).length + 1) c2) ((ups d).length + 1) (Ns.ms (ups d) ++ [.int .i64 e]) → ((Value.slice va ((ups d).length : Nat) vc).ownBlock = some g2 ∨ g2 = w.heap.size + 1) →
     Q (.returned (.int .i64 0)) (w2.setCell ⟨go,k * 11 + 10,none⟩ (.slice (some ⟨g2,0,none⟩) ((ups d).length + 1) c2)) := fun {w2 g2 c2} hev hown2 hat => by
    have hgo := Own.lt hN.own (g := go) rfl
    have hup : (ups (upcD d e)).length = (ups d).length + 1 := by simp [upcD,ups]
    have hms : Ns.ms (ups (upcD d e)) = Ns.ms (ups d) ++ [.int .i64 e] := by simp [upcD,ups,Ns.ms]
    have hb := hev.size
    refine q3 _ _ he h16 ?_ ((hB.ev hev hBx).other hBo _ _) (Np.put hN hk (fun _ => rfl) ?_ hev (fun b hb => ?_))
    ·exact Below.setCell (p := ⟨go,k * 11 + 10,none⟩) (ev_below_n hev (fun b hb => (Own.lt hown hb).1) hn0) hgo.1 _
    ·rw [hup,hms]; exact hown2
    ·have : g2 = b := by simpa [Value.ownBlock] using hb
     subst this
     rcases hat with h | h
     ·exact .inl h
     ·exact .inr (by omega)
   have hca : ∀ o : Obj,(w.alloc o).cell? ⟨go,k * 11 + 10,none⟩ = some (.slice va ((ups d).length : Nat) vc) := fun o => (((Below.refl w.heap.size w).alloc (Nat.le_refl _) o).cell (p := ⟨go,k * 11 + 10,none⟩) (Own.lt hN.own rfl).2).trans hcx
   obtain ⟨i0,hi0,hz0,hz1,hz2⟩ := info_parts Nq.infoI
   go_wp2
   go_region_law ((refine step_append_lies _ (by rfl) _ _ _ (by rfl) n0 3 i0 _ 1 8 hu4t hi0 hz0 hz1 hz2 rfl (by omega) (.slice va ((ups d).length : Nat) vc) _ (Ns.ms (ups d)) (by rfl) ((hown.alloc _).drew) ⟨w.heap.size,0,none⟩ 1 1 [.int .i64 e] (by rfl) (by simp) (World.news_of_block (heap_alloc_new _ _)) (by simp [Value.oneCell']) (by omega) (by simp only [maxLen]; omega) (by omega) (by simp; omega) (w.heap.size + 1) (by simp) ?_; intro g2 c2 w2 hown2 hgrow hat hlt; obtain ⟨hev,s1,s2⟩ := hst hgrow))
   all_goals go_wp2
   all_goals exact hfin hev hown2 hat
end Go.Proofs
namespace Go.Proofs
open Go.RowKit Go.Shelf Go.AL
attribute [local go_sem] Oper.semAt_some
def ArgAt (w : World) (k : AK) (x : k.T) (u : Value) : Prop := ∃ v,ArgV k x v ∧ Rel ⟨w,fun _ => False,noH,noB⟩ v u
theorem ArgsAt.one {w : World} {k : AK} {x : k.T} {u : Value} (h : ArgAt w k x u) : ArgsAt w [k] x #[u] := by
 obtain ⟨v,h1,h2⟩ := h
 refine ⟨[v],⟨v,rfl,h1⟩,rfl,fun i y hy => ?_⟩
 match i,hy with
 | 0,hy => simp at hy; subst hy; exact ⟨u,rfl,h2⟩
 | i + 1,hy => simp at hy
theorem ArgsAt.two {w : World} {k k2 : AK} {x : k.T} {y : k2.T} {u u2 : Value} (h : ArgAt w k x u) (h' : ArgAt w k2 y u2) : ArgsAt w [k,k2] (x,y) #[u,u2] := by
 obtain ⟨v,h1,h2⟩ := h
 obtain ⟨v',h3,h4⟩ := h'
 refine ⟨[v,v'],⟨v,[v'],rfl,h1,v',rfl,h3⟩,rfl,fun i y hy => ?_⟩
 match i,hy with
 | 0,hy => simp at hy; subst hy; exact ⟨u,rfl,h2⟩
 | 1,hy => simp at hy; subst hy; exact ⟨u2,rfl,h4⟩
 | i + 2,hy => simp at hy
theorem Ns.relStep {w w' : World} {A A' : Nat → Prop} (hA : ∀ b,A b → b < w.heap.size) (hs : w.heap.size ≤ w'.heap.size) (hb : ∀ b,b < w.heap.size → w'.heap[b]? = w.heap[b]?) (hAA : ∀ b,b < w.heap.size → A' b → A b) {x : V} {u : Value}
  (h : Rel ⟨w,A,noH,noB⟩ x u) : Rel ⟨w',A',noH,noB⟩ x u := by
 have hob : ObsOK ⟨w,A,noH,noB⟩ := ⟨fun o ob h => (by cases h),fun o o' ob ob' b h => (by cases h),hA⟩
 have S : Step ⟨w,A,noH,noB⟩ ⟨w',A',noH,noB⟩ := ⟨fun b h _ => hb b h,hs,hAA,fun b _ h => by obtain ⟨o,ob,h,_⟩ := h; cases h⟩
 have := Rel.step hob S (K := fun _ => false) (fun p _ ob' h => by cases h) h
 rwa [V.kill_none] at this
theorem ArgAt.below {w w' : World} {k : AK} {x : k.T} {u : Value} (h : ArgAt w k x u) (hB : Below w.heap.size w w') : ArgAt w' k x u := by
 obtain ⟨v,h1,h2⟩ := h
 exact ⟨v,h1,Ns.relStep (fun _ h => h.elim) hB.size (fun b hb => hB.block b hb) (fun _ _ h => h) h2⟩
theorem ArgAt.int {w : World} {i : Int} : ArgAt w (.c (.int .i64)) i (.int .i64 i) := ⟨.int .i64 i,tyV_int.2 rfl,.int _ _⟩
theorem Ns.res_b {w : World} {A : Nat → Prop} {x : Bool} {rds : List RD} {w' : World} {us : List Value} {β' : Nat → Option Nat} {A' : Nat → Prop} (hr : RessV [.v .bool] x rds) (h : PostR w A rds w' us β' A') : packV us = .bool x ∧ Below w.heap.size w w' := by
 obtain ⟨rd,rfl,y,rfl,hy⟩ := (hr : ∃ rd,rds = [rd] ∧ ∃ y,rd = .v y ∧ TyV .bool x y)
 have hy : y = .bool x := tyV_bool.1 hy
 subst hy
 obtain ⟨u,h1,h2⟩ := h.rel 0 _ rfl
 have hl := h.len
 obtain ⟨u',rfl⟩ := List.length_eq_one_iff.1 (show us.length = 1 by simpa using hl)
 simp at h1; subst h1
 have h3 : RelP w' A' (.bool x) u' := h2
 cases h3
 exact ⟨rfl,ev_below' h.ev⟩
theorem Ns.res_i {w : World} {A : Nat → Prop} {x : Int} {rds : List RD} {w' : World} {us : List Value} {β' : Nat → Option Nat} {A' : Nat → Prop} (hr : RessV [.v (.int .i64)] x rds) (h : PostR w A rds w' us β' A') : packV us = .int .i64 x ∧ Below w.heap.size w w' := by
 obtain ⟨rd,rfl,y,rfl,hy⟩ := (hr : ∃ rd,rds = [rd] ∧ ∃ y,rd = .v y ∧ TyV (.int .i64) x y)
 have hy : y = .int .i64 x := tyV_int.1 hy
 subst hy
 obtain ⟨u,h1,h2⟩ := h.rel 0 _ rfl
 have hl := h.len
 obtain ⟨u',rfl⟩ := List.length_eq_one_iff.1 (show us.length = 1 by simpa using hl)
 simp at h1; subst h1
 have h3 : RelP w' A' (.int .i64 x) u' := h2
 cases h3
 exact ⟨rfl,ev_below' h.ev⟩
theorem Ns.callB {P : Program} {e : Ent} (h : e.Ok P) (a : ArgT e.ad) (hk : e.rk = [.v .bool]) (hp : e.pre a = true) {b : Bool} (hb : HEq (e.fn a) b) {w : World} {us : Array Value} (ha : ArgsAt w e.ad a us) :
  Calls P e.g us w fun en w' => en = .returned (.bool b) ∧ Below w.heap.size w w' :=
 (Ns.call h a hp ha).mono fun en w' ⟨rds,us',β',A',hr,he,hpost⟩ => by
  obtain ⟨g,ad,rk,pre,fn⟩ := e
  simp only at hk hb hr
  subst hk
  have := eq_of_heq hb
  rw [this] at hr
  obtain ⟨h1,h2⟩ := Ns.res_b hr hpost
  exact ⟨by rw [he,h1],h2⟩
theorem Ns.callI {P : Program} {e : Ent} (h : e.Ok P) (a : ArgT e.ad) (hk : e.rk = [.v (.int .i64)]) (hp : e.pre a = true) {b : Int} (hb : HEq (e.fn a) b) {w : World} {us : Array Value} (ha : ArgsAt w e.ad a us) :
  Calls P e.g us w fun en w' => en = .returned (.int .i64 b) ∧ Below w.heap.size w w' :=
 (Ns.call h a hp ha).mono fun en w' ⟨rds,us',β',A',hr,he,hpost⟩ => by
  obtain ⟨g,ad,rk,pre,fn⟩ := e
  simp only at hk hb hr
  subst hk
  have := eq_of_heq hb
  rw [this] at hr
  obtain ⟨h1,h2⟩ := Ns.res_i hr hpost
  exact ⟨by rw [he,h1],h2⟩
theorem ArgAt.of {w : World} {A : Nat → Prop} (hA : ∀ b,A b → b < w.heap.size) {k : AK} {x : k.T} {v : V} {u : Value} (h : ArgV k x v) (hr : Rel ⟨w,A,noH,noB⟩ v u) : ArgAt w k x u :=
 ⟨v,h,Ns.relStep hA (Nat.le_refl _) (fun _ _ => rfl) (fun _ _ h => h.elim) hr⟩
theorem arr3 {us : Array Value} (h : us.size = 3) {a b c : Value} (h0 : us[0]? = some a) (h1 : us[1]? = some b) (h2 : us[2]? = some c) : us = #[a,b,c] := by
 obtain ⟨l⟩ := us
 match l,h,h0,h1,h2 with
 | [x0,x1,x2],_,h0,h1,h2 =>
  simp at h0 h1 h2
  rw [h0,h1,h2]
theorem Nr.sRow {s : SSd} {row : List V} : RowV tSSd s row = (∃ v0 r0,row = v0 :: r0 ∧ (v0 = .int .i64 s.1) ∧ ∃ v1 r1,r0 = v1 :: r1 ∧ (v1 = .int .i64 s.2.1) ∧ ∃ v2,r1 = [v2] ∧ TyV (.sl tSDs) s.2.2 v2) := by kernel_rfl
theorem Nr.slV {zs : List SDs} {v : V} : TyV (.sl tSDs) zs v = ((zs = [] ∧ v = .nil) ∨ ∃ rows,v = .sl rows ∧ All2 (RowV tSDs) zs rows) := by kernel_rfl
theorem Nr.sched {w : World} {A : Nat → Prop} {s : SSd} {row : List V} {u0 : Value} (hr : RowV tSSd s row) (h : Rel ⟨w,A,noH,noB⟩ (.agg row) u0) :
  ∃ u rows,u0 = .agg (Nc.s s.1 s.2.1 u) ∧ RowsV tSDs s.2.2 rows ∧ SlAt w A A rows u ∧ u.oneCell' = true := by
 rw [Nr.sRow] at hr
 obtain ⟨v0,r0,rfl,rfl,v1,r1,rfl,rfl,v2,rfl,hx⟩ := hr
 obtain ⟨vs,rfl,hsz,hc⟩ := h
 obtain ⟨w0,c0,d0⟩ := hc 0 _ rfl
 obtain ⟨w1,c1,d1⟩ := hc 1 _ rfl
 obtain ⟨u,c2,d2⟩ := hc 2 _ rfl
 have h1 := d2.oneCell
 cases d0; cases d1
 obtain ⟨l⟩ := vs
 match l,hsz,c0,c1,c2 with
 | [y0,y1,y2],_,c0,c1,c2 =>
  simp at c0 c1 c2
  rw [c0,c1,c2]
  rw [Nr.slV] at hx
  rcases hx with ⟨h2,rfl⟩ | ⟨rows,rfl,h2⟩
  ·cases d2
   exact ⟨_,[],rfl,by rw [h2]; trivial,.inl ⟨⟨_,rfl⟩,rfl⟩,rfl⟩
  ·exact ⟨u,rows,rfl,h2,relP_sl.1 d2,h1⟩
structure Nr.Arg (w : World) (A : Nat → Prop) (s : SSd) (u : Value) (rows : List (List V)) : Prop where
 hA : ∀ b,A b → b < w.heap.size
 agg : ArgAt w (.g tSSd) s (.agg (Nc.s s.1 s.2.1 u))
 hrows : RowsV tSDs s.2.2 rows
 sl : SlAt w A A rows u
 one : u.oneCell' = true
theorem Nr.Arg.of {w : World} {A : Nat → Prop} (hA : ∀ b,A b → b < w.heap.size) {s : SSd} {v : V} {u0 : Value} (h : ArgV (.g tSSd) s v) (hr : Rel ⟨w,A,noH,noB⟩ v u0) : ∃ u rows,u0 = .agg (Nc.s s.1 s.2.1 u) ∧ Nr.Arg w A s u rows := by
 have h1 := ArgAt.of hA h hr
 obtain ⟨row,rfl,h2⟩ := h
 obtain ⟨u,rows,rfl,h3,h4,h5⟩ := Nr.sched h2 hr
 exact ⟨u,rows,rfl,hA,h1,h3,h4,h5⟩
theorem Nr.Arg.below {w W : World} {A : Nat → Prop} {s : SSd} {u : Value} {rows : List (List V)} (h : Nr.Arg w A s u rows) (hB : Below w.heap.size w W) : Nr.Arg W A s u rows :=
 ⟨fun b hb => Nat.lt_of_lt_of_le (h.hA b hb) hB.size,h.agg.below hB,h.hrows,h.sl.frame (fun b hb _ => hB.block b hb) (fun b hb _ => hB.block b hb) hB.size (fun _ _ h => h) (fun _ _ h => h),h.one⟩
theorem Nr.Arg.drop {w : World} {A : Nat → Prop} {s : SSd} {u : Value} {rows : List (List V)} (h : Nr.Arg w A s u rows) : SlAt w (fun _ => False) (fun _ => False) rows u :=
 h.sl.frame (Agree.refl _ _) (Agree.refl _ _) (Nat.le_refl _) (fun _ _ h => h.elim) (fun _ _ h => h.elim)
theorem Nr.rdArg {w : World} {l : List SDs} {rows : List (List V)} {u : Value} (h1 : RowsV tSDs l rows) (h2 : SlAt w (fun _ => False) (fun _ => False) rows u) : ArgAt w (.rd tSDs) l u :=
 ⟨.rd rows,⟨_,rfl,h1⟩,by
  have e : (Env.M ⟨w,fun _ => False,noH,noB⟩) = fun _ => False := by funext b; simp [Env.M,noH]
  show SlAt w (fun _ => False) (Env.M ⟨w,fun _ => False,noH,noB⟩) _ u
  rw [e]; exact h2⟩
theorem Nr.val {w : World} {A : Nat → Prop} {s : SSd} {u : Value} {rows : List (List V)} (h : Nr.Arg w A s u rows) :
  Calls Try.prog 20 #[.agg (Nc.s s.1 s.2.1 u)] w fun en w' => en = .returned (.bool (valS s)) ∧ Below w.heap.size w w' :=
 Ns.callB (b := valS s) E_val_ok (s : SSd) rfl rfl HEq.rfl (ArgsAt.one h.agg)
theorem Nr.idx {w : World} {A : Nat → Prop} {s : SSd} {u : Value} {rows : List (List V)} (h : Nr.Arg w A s u rows) (hlen : s.2.2.length ≤ 1000) {id : Int} {B : Nat} (hb : HB w B tyM #[.int .i64 id]) :
  Calls Try.prog 67 #[u,.func (.func 68) #[] #[.pointer (some ⟨B,0,none⟩)]] w fun en w' => en = .returned (.int .i64 (opnI id s.2.2 0)) ∧ Below w.heap.size w w' := by
 have hfn : ArgAt w (.fn 68 [[.int .i64]]) id (.func (.func 68) #[] #[.pointer (some ⟨B,0,none⟩)]) := by
  refine ⟨.fn _ [.cp [.int .i64 id] 0],⟨_,rfl,_,rfl,_,rfl,Ns.mRow_of id⟩,#[.pointer (some ⟨B,0,none⟩)],rfl,rfl,fun i x hx => ?_⟩
  match i,hx with
  | 0,hx =>
   simp at hx
   subst hx
   refine ⟨_,rfl,B,0,fun k => ([(.int .i64 id : Value)][k]?).getD undef,rfl,hb.lt,fun h => ?_,fun k x hk => ?_,fun k x hk => ?_⟩
   ·obtain ⟨o,ob,h,_⟩ := h; cases h
   all_goals
    match k,hk with
    | 0,hk => ?_
    | k + 1,hk => (simp at hk)
   ·rw [Nat.zero_add,hb.cell]; rfl
   ·simp at hk; subst hk; exact .int _ _
  | i + 1,hx => simp at hx
 exact Ns.callI (b := opnI id s.2.2 0) E_dix_ok ((s.2.2,id) : List SDs × Int) rfl (decide_eq_true (show s.2.2.length ≤ 1099511627776 by omega)) HEq.rfl (ArgsAt.two (Nr.rdArg h.hrows h.drop) hfn)
theorem Nr.cln {w : World} {A : Nat → Prop} {s : SSd} {u : Value} {rows : List (List V)} (h : Nr.Arg w A s u rows) (hs : okD s = true) :
  Calls Try.prog 37 #[.agg (Nc.s s.1 s.2.1 u)] w fun en w' => ∃ out R,en = .returned (.agg (Nc.s s.1 s.2.1 out)) ∧ R.map Prod.fst = s.2.2 ∧ Nest w' w.heap.size out R ∧ Below w.heap.size w w' :=
 Nc.calls w s.1 s.2.1 u s.2.2 (okD_len hs) (fun d hd => okD_mem hs hd) h.hA h.hrows h.sl h.one
end Go.Proofs
namespace Go.Proofs
open Go.RowKit Go.Shelf Go.AL
attribute [local go_sem] Oper.semAt_some
theorem Nu.res {W : World} {B : Nat} {n v err : Int} {u : Value} {tmps : Array Value} (h6 : tmps[6]? = some (.pointer (some ⟨B,0,none⟩))) (h7 : tmps[7]? = some (.int .i64 err)) (hb : HB W B tyS (Nc.s n v u)) :
  (results Try.f45 tmps).run Try.prog W = .ok (.tuple #[.agg (Nc.s n v u),.int .i64 err]) W := by
 have c0 := hb.cell 0
 have c1 := hb.cell 1
 have c2 := hb.cell 2
 simp [results,Try.f45,go_sem,h6,h7,c0,c1,c2]
theorem Nu.lit (w : World) (B Be : Nat) (n v e : Int) (n0 go cap : Nat) (R : List (SDs × Value)) (k : Nat) (d : SDs) (x : Value) (hB : HB w B tyS (Nc.s n v (.slice (some ⟨go,0,none⟩) (R.length : Nat) cap))) (hBe : HB w Be tyM #[.int .i64 e])
  (hN : Nest w n0 (.slice (some ⟨go,0,none⟩) (R.length : Nat) cap) R) (hk : R[k]? = some (d,x)) (hBo : B ≠ go) (hBx : x.ownBlock ≠ some B) (hBe1 : Be < n0) (hn0 : n0 ≤ w.heap.size) (hlen : (ups d).length ≤ 16) :
  Calls Try.prog 54 #[.pointer (some ⟨B,0,none⟩),.int .i64 (k : Int),.pointer (some ⟨Be,0,none⟩)] w fun en W => en = .returned (.int .i64 (pstF e d).2) ∧ Below n0 w W ∧
   HB W B tyS (Nc.s n v (.slice (some ⟨go,0,none⟩) (R.length : Nat) cap)) ∧ ((pstF e d).2 = 0 → ∃ d' x',(pstF e d).1 = [d'] ∧ Nest W n0 (.slice (some ⟨go,0,none⟩) (R.length : Nat) cap) (R.set k (d',x'))) := by
 refine Nq.lit w B Be n v e n0 go cap R k d x hB hBe hN hk hBo hBx hBe1 hn0 hlen _ (fun he => ?_) (fun he h16 => ?_) (fun W x' he h16 hb h1 h2 => ?_)
 ·have e1 : pstF e d = ([],1) := by unfold pstF; rw [decide_eq_true he,cond_true]
  rw [e1]
  exact ⟨rfl,Below.refl _ _,hB,fun h => absurd h (by simp)⟩
 ·have e1 : pstF e d = ([],65) := by unfold pstF; rw [decide_eq_false he,cond_false,decide_eq_true (show (ups d).length ≥ 16 by omega),cond_true]
  rw [e1]
  exact ⟨rfl,Below.refl _ _,hB,fun h => absurd h (by simp)⟩
 ·have e1 : pstF e d = ([upcD d e],0) := by unfold pstF; rw [decide_eq_false he,cond_false,decide_eq_false (show ¬ (ups d).length ≥ 16 by omega),cond_false]; rfl
  rw [e1]
  exact ⟨rfl,hb,h1,fun _ => ⟨_,x',rfl,h2⟩⟩
theorem Nest.nil {W : World} {n0 : Nat} : Nest W n0 (.slice none 0 0) [] := ⟨⟨rfl,.inl ⟨rfl,rfl⟩⟩,fun p hp => (by cases hp),fun p hp => (by cases hp),.nil⟩
theorem Nu.out {W : World} {n0 : Nat} {out : Value} {R : List (SDs × Value)} (h : Nest W n0 out R) (h0 : 0 < R.length) : ∃ go cap,out = .slice (some ⟨go,0,none⟩) (R.length : Nat) cap := by
 rcases h.own.2 with ⟨_,h1⟩ | ⟨g,cap,cur,e1,_⟩
 ·omega
 ·exact ⟨g,cap,e1⟩
theorem Nu.drew {n : Nat} (w : World) : Below n w w.drew := ⟨rfl,rfl,rfl,Nat.le_refl _,fun _ _ => rfl⟩
set_option maxRecDepth 100000 in
set_option maxHeartbeats 4000000 in
theorem Nu.change {w : World} {A : Nat → Prop} {s : SSd} {u : Value} {rows : List (List V)} (h : Nr.Arg w A s u rows) (hs : okD s = true) (id e : Int) (Be : Nat) (hBe : HB w Be tyM #[.int .i64 e]) :
  Calls Try.prog 45 #[.agg (Nc.s s.1 s.2.1 u),.int .i64 id,.func (.func 54) #[] #[.pointer (some ⟨Be,0,none⟩)]] w fun en w' => ∃ n v out R err,en = .returned (.tuple #[.agg (Nc.s n v out),.int .i64 err]) ∧
   chgS s id (pstF e) = ((n,v,R.map Prod.fst),err) ∧ Nest w' w.heap.size out R ∧ Below w.heap.size w w' := by
 have hu1t := Try.underlying26
 have hu2t := Try.underlying24
 have hu3t := Try.underlying53
 have hu4t := Try.underlying22
 obtain ⟨W0,hW0⟩ : ∃ W0,W0 = ((w.alloc (.cells (Nc.s s.1 s.2.1 u) tyS)).alloc (.cells #[.int .i64 id] tyM)).alloc (.cells #[.int .i64 0,.int .i64 0,.slice none 0 0] tyS) := ⟨_,rfl⟩
 have hB0 : Below w.heap.size w W0 := by rw [hW0]; exact (((Below.refl _ w).alloc (Nat.le_refl _) _).alloc (by simp) _).alloc (by simp; omega) _
 have hsz0 : W0.heap.size = w.heap.size + 3 := by rw [hW0]; simp
 have b1 : HB W0 w.heap.size tyS (Nc.s s.1 s.2.1 u) := by rw [hW0]; exact ((HB.new w tyS (Nc.s s.1 s.2.1 u)).alloc _).alloc _
 have b2 : HB W0 (w.heap.size + 1) tyM #[.int .i64 id] := by
  have := (HB.new (w.alloc (.cells (Nc.s s.1 s.2.1 u) tyS)) tyM #[.int .i64 id]).alloc (.cells #[.int .i64 0,.int .i64 0,.slice none 0 0] tyS)
  rw [hW0]; rwa [World.size_alloc] at this
 have b3 : HB W0 (w.heap.size + 1 + 1) tyS #[.int .i64 0,.int .i64 0,.slice none 0 0] := by
  have := HB.new ((w.alloc (.cells (Nc.s s.1 s.2.1 u) tyS)).alloc (.cells #[.int .i64 id] tyM)) tyS #[.int .i64 0,.int .i64 0,.slice none 0 0]
  rw [hW0]; rwa [World.size_alloc,World.size_alloc] at this
 have hval := Nr.val (h.below hB0)
 have hidx : ∀ {W1 : World},Below W0.heap.size W0 W1 → s.2.2.length ≤ 1000 → _ := fun {W1} hB hl => Nr.idx ((h.below hB0).below hB) hl (b2.below hB b2.lt)
 have hc : chgS s id (pstF e) = chgS s id (pstF e) := rfl
 conv at hc => rhs; unfold chgS
 cases hv : valS s
 ·rw [hv] at hval hc
  simp only [Bool.not_false,cond_true] at hc
  clear hidx
  subst hW0
  go_enter Try.func45,Try.ntmps45
  go_wp2_with (go_at_call 20; refine hval.mono ?_; clear hval; rintro en W1 ⟨rfl,hB1⟩; have o3 := b3.below hB1 b3.lt; have f0 := o3.frozen 0; have f1 := o3.frozen 1; have f2 := o3.frozen 2; have c0 := o3.cell 0; have c1 := o3.cell 1; have c2 := o3.cell 2)
  exact ⟨rfl,_,Nu.res rfl rfl (Nc.store3 o3 _ _ _),0,0,_,[],74,rfl,hc,Nest.nil,(hB0.trans (hB1.mono hB0.size)).trans (Nc.below3 (by omega) _ _ _)⟩
 ·rw [hv] at hval hc
  simp only [Bool.not_true,cond_false] at hc
  have hVs := (valS_iff s).1 hv
  have hl := hVs.len
  have hidx : ∀ {W1 : World},Below W0.heap.size W0 W1 → _ := fun {W1} hB => hidx hB (by omega)
  obtain ⟨j,hj⟩ : ∃ j,j = opnI id s.2.2 0 := ⟨_,rfl⟩
  simp only [← hj] at hidx hc
  by_cases hneg : j < 0
  ·rw [decide_eq_true hneg,cond_true] at hc
   subst hW0
   go_enter Try.func45,Try.ntmps45
   go_wp2_with (first
    | (go_at_call 20; refine hval.mono ?_; clear hval; rintro en W1 ⟨rfl,hB1⟩; have hidx := hidx hB1; have o1 := b1.below hB1 b1.lt; have f2 := o1.frozen 2; have c2 := o1.cell 2)
    | (go_at_call 67; refine hidx.mono ?_; clear hidx; rintro en W2 ⟨rfl,hB2⟩; have o3 := (b3.below hB1 b3.lt).below hB2 (Nat.lt_of_lt_of_le b3.lt hB1.size); have f0 := o3.frozen 0; have f1 := o3.frozen 1; have f2 := o3.frozen 2; have c0 := o3.cell 0; have c1 := o3.cell 1; have c2 := o3.cell 2))
   exact ⟨rfl,_,Nu.res rfl rfl (Nc.store3 o3 _ _ _),0,0,_,[],17,rfl,hc,Nest.nil,((hB0.trans (hB1.mono hB0.size)).trans (hB2.mono (by have := hB1.size; omega))).trans (Nc.below3 (by omega) _ _ _)⟩
  ·rw [decide_eq_false hneg,cond_false] at hc
   obtain ⟨L,d,M,hLd,hjL,hd1,hd2⟩ := opn_split (id := id) (l := s.2.2) (k := 0) (by rw [← hj]; exact hneg)
   rw [← hj,Nat.zero_add] at hjL
   have hkl : L.length < s.2.2.length := by rw [hLd]; simp
   have hget : s.2.2.getD L.length zDs = d := by rw [hLd]; simp
   have hdm : d ∈ s.2.2 := by rw [hLd]; simp
   rw [show j.toNat = L.length by omega,hget] at hc
   have hd16 : (ups d).length ≤ 16 := by
    have := hVs.all d hdm
    simp only [vdiS,upB,Bool.and_eq_true,decide_eq_true_eq] at this
    exact this.2.2.1.1
   clear hj
   subst hjL
   have h0 := h.below hB0
   obtain ⟨er,her⟩ : ∃ er,er = (pstF e d).2 := ⟨_,rfl⟩
   have hlit : ∀ {W1 W2 W3 W4 : World} {go cap : Nat} {R : List (SDs × Value)},Below W0.heap.size W0 W1 → Below W1.heap.size W1 W2 → Below W2.heap.size W2 W3 → R.map Prod.fst = s.2.2 → Nest W3 W2.heap.size (.slice (some ⟨go,0,none⟩) (R.length : Nat) cap) R →
     Below W3.heap.size W3 W4 → HB W4 W3.heap.size tyS (Nc.s s.1 s.2.1 (.slice (some ⟨go,0,none⟩) (R.length : Nat) cap)) →
     Calls Try.prog 54 #[.pointer (some ⟨W3.heap.size,0,none⟩),.int .i64 (L.length : Int),.pointer (some ⟨Be,0,none⟩)] W4 fun en W => en = .returned (.int .i64 er) ∧ Below W2.heap.size W4 W ∧
      HB W W3.heap.size tyS (Nc.s s.1 s.2.1 (.slice (some ⟨go,0,none⟩) (R.length : Nat) cap)) ∧ (er = 0 → ∃ d' x',(pstF e d).1 = [d'] ∧ Nest W W2.heap.size (.slice (some ⟨go,0,none⟩) (R.length : Nat) cap) (R.set L.length (d',x'))) := by
    intro W1 W2 W3 W4 go cap R hB1 hB2 hB3 hR hN hB4 hb
    rw [her]
    have hRl : R.length = s.2.2.length := by rw [← hR,List.length_map]
    obtain ⟨⟨d0,x⟩,hx⟩ : ∃ p,R[L.length]? = some p := ⟨_,List.getElem?_eq_getElem (by omega)⟩
    have hd0 : d0 = d := by
     have h1 : (R.map Prod.fst)[L.length]? = some d0 := by rw [List.getElem?_map,hx]; rfl
     rw [hR,hLd,List.getElem?_append_right (Nat.le_refl _),Nat.sub_self] at h1
     exact (Option.some.inj h1).symm
    subst hd0
    have hgo := Own.lt hN.own (g := go) rfl
    have hxo := fun b hb => Own.lt (hN.inn _ (List.mem_of_getElem? hx)) (g := b) hb
    have hbe0 : Be < w.heap.size := hBe.lt
    have hs1 := hB1.size
    have hs2 := hB2.size
    have hs3 := hB3.size
    have hs4 := hB4.size
    have hbe4 : HB W4 Be tyM #[.int .i64 e] := ((((hBe.below hB0 hbe0).below hB1 (by omega)).below hB2 (by omega)).below hB3 (by omega)).below hB4 (by omega)
    exact Nu.lit W4 W3.heap.size Be s.1 s.2.1 e W2.heap.size go cap R L.length d0 x hb hbe4 (hN.below hB4) hx (by omega) (fun e1 => by have := (hxo _ e1).2; omega) (by omega) (by omega) hd16
   have hfin : ∀ {W1 W2 W3 W4 W5 : World} (n' v' : Int),Below W0.heap.size W0 W1 → Below W1.heap.size W1 W2 → Below W2.heap.size W2 W3 → Below W3.heap.size W3 W4 → Below W2.heap.size W4 W5 → Below w.heap.size w W5 := fun {W1 W2 W3 W4 W5} n' v' hB1 hB2 hB3 hB4 hB5 => by
    have hs1 := hB1.size
    have hs2 := hB2.size
    have hs3 := hB3.size
    exact ((((hB0.trans (hB1.mono (by omega))).trans (hB2.mono (by omega))).trans (hB3.mono (by omega))).trans (hB4.mono (by omega))).trans (hB5.mono (by omega))
   rw [← her] at hc
   clear her
   by_cases her0 : er = 0
   ·subst her0
    rw [show (decide ((0 : Int) = 0)) = true from rfl,Bool.not_true,cond_false] at hc
    subst hW0
    go_enter Try.func45,Try.ntmps45
    go_wp2_with (first
     | (go_at_call 20; refine hval.mono ?_; clear hval; rintro en W1 ⟨rfl,hB1⟩; have hidx := hidx hB1; have o1 := b1.below hB1 b1.lt; have f2 := o1.frozen 2; have c2 := o1.cell 2)
     | (go_at_call 67; refine hidx.mono ?_; clear hidx; rintro en W2 ⟨rfl,hB2⟩; have o3 := (b3.below hB1 b3.lt).below hB2 (Nat.lt_of_lt_of_le b3.lt hB1.size); have o1 := (b1.below hB1 b1.lt).below hB2 (Nat.lt_of_lt_of_le b1.lt hB1.size); clear f2 c2; have k0 := o1.cell 0; have k1 := o1.cell 1; have k2 := o1.cell 2)
     | (go_at_call 37; refine (Nr.cln ((h0.below hB1).below hB2) hs).mono ?_; clear k0 k1 k2; rintro en W3 ⟨out,R,rfl,hR,hN,hB3⟩; obtain ⟨go,cap,rfl⟩ := Nu.out hN (by rw [← List.length_map (f := Prod.fst),hR]; omega))
     | (go_at_call 54; refine (hlit hB1 hB2 hB3 hR hN ((Below.refl _ W3).alloc (Nat.le_refl _) _) (HB.new W3 tyS _)).mono ?_; rintro en W5 ⟨rfl,hB5,o9,hN5⟩; have o3 := ((((o3.below hB3 o3.lt).alloc _).below (hB5.mono (Nat.le_refl _)) o3.lt)); have f0 := o3.frozen 0; have f1 := o3.frozen 1; have f2 := o3.frozen 2; have c0 := o3.cell 0; have c1 := o3.cell 1; have c2 := o3.cell 2; have k0 := o9.cell 0; have k1 := o9.cell 1; have k2 := o9.cell 2))
    obtain ⟨d',x',e1,hN6⟩ := hN5 trivial
    have hs1 := hB1.size
    have hs2 := hB2.size
    have e2 : (R.set L.length (d',x')).map Prod.fst = s.2.2.take L.length ++ [d'] ++ s.2.2.drop (L.length + 1) := by
     rw [List.map_set,hR,hLd]
     simp
    rw [e1,← e2] at hc
    refine ⟨rfl,_,Nu.res rfl rfl (Nc.store3 o3 _ _ _),_,_,_,_,0,rfl,hc,?_,?_⟩
    ·refine Nest.mono (n0 := W2.heap.size) ?_ (by omega)
     exact hN6.ev (Nc.ev3 _ _ _) (fun b h1 _ e => by omega)
    ·exact (hfin 0 0 hB1 hB2 hB3 ((Below.refl _ W3).alloc (Nat.le_refl _) _) hB5).trans (Nc.below3 (by omega) _ _ _)
   ·rw [decide_eq_false her0,Bool.not_false,cond_true] at hc
    subst hW0
    go_enter Try.func45,Try.ntmps45
    go_wp2_with (first
     | (go_at_call 20; refine hval.mono ?_; clear hval; rintro en W1 ⟨rfl,hB1⟩; have hidx := hidx hB1; have o1 := b1.below hB1 b1.lt; have f2 := o1.frozen 2; have c2 := o1.cell 2)
     | (go_at_call 67; refine hidx.mono ?_; clear hidx; rintro en W2 ⟨rfl,hB2⟩; have o3 := (b3.below hB1 b3.lt).below hB2 (Nat.lt_of_lt_of_le b3.lt hB1.size); have o1 := (b1.below hB1 b1.lt).below hB2 (Nat.lt_of_lt_of_le b1.lt hB1.size); clear f2 c2; have k0 := o1.cell 0; have k1 := o1.cell 1; have k2 := o1.cell 2)
     | (go_at_call 37; refine (Nr.cln ((h0.below hB1).below hB2) hs).mono ?_; clear k0 k1 k2; rintro en W3 ⟨out,R,rfl,hR,hN,hB3⟩; obtain ⟨go,cap,rfl⟩ := Nu.out hN (by rw [← List.length_map (f := Prod.fst),hR]; omega))
     | (go_at_call 54; refine (hlit hB1 hB2 hB3 hR hN ((Below.refl _ W3).alloc (Nat.le_refl _) _) (HB.new W3 tyS _)).mono ?_; rintro en W5 ⟨rfl,hB5,o9,hN5⟩; have o3 := ((((o3.below hB3 o3.lt).alloc _).below (hB5.mono (Nat.le_refl _)) o3.lt)); have f0 := o3.frozen 0; have f1 := o3.frozen 1; have f2 := o3.frozen 2; have c0 := o3.cell 0; have c1 := o3.cell 1; have c2 := o3.cell 2))
    all_goals exact ⟨rfl,_,Nu.res rfl rfl (Nc.store3 o3 _ _ _),0,0,_,[],er,rfl,hc,Nest.nil,(hfin 0 0 hB1 hB2 hB3 ((Below.refl _ W3).alloc (Nat.le_refl _) _) hB5).trans (Nc.below3 (by omega) _ _ _)⟩
end Go.Proofs
namespace Go.Proofs
open Go.RowKit Go.Shelf Go.AL
attribute [local go_sem] Oper.semAt_some
theorem Nv.res {W : World} {B : Nat} {n v err : Int} {u : Value} {tmps : Array Value} (h6 : tmps[6]? = some (.pointer (some ⟨B,0,none⟩))) (h7 : tmps[7]? = some (.int .i64 err)) (hb : HB W B tyS (Nc.s n v u)) :
  (results Try.f27 tmps).run Try.prog W = .ok (.tuple #[.agg (Nc.s n v u),.int .i64 err]) W := by
 have c0 := hb.cell 0
 have c1 := hb.cell 1
 have c2 := hb.cell 2
 simp [results,Try.f27,go_sem,h6,h7,c0,c1,c2]
theorem Nv.shape {W : World} {n0 : Nat} {out : Value} {R : List (SDs × Value)} (h : Nest W n0 out R) : ∃ a m c,out = .slice a m c := by
 rcases h.own.2 with ⟨e,_⟩ | ⟨g,cap,cur,e,_⟩ <;> exact ⟨_,_,_,e⟩
set_option maxRecDepth 100000 in
set_option maxHeartbeats 4000000 in
theorem Nv.post {w : World} {A : Nat → Prop} {s : SSd} {u : Value} {rows : List (List V)} (h : Nr.Arg w A s u rows) (hs : okD s = true) (id e : Int) :
  Calls Try.prog 27 #[.agg (Nc.s s.1 s.2.1 u),.int .i64 id,.int .i64 e] w fun en w' => ∃ n v out R err,en = .returned (.tuple #[.agg (Nc.s n v out),.int .i64 err]) ∧
   chgS s id (pstF e) = ((n,v,R.map Prod.fst),err) ∧ Nest w' w.heap.size out R ∧ Below w.heap.size w w' := by
 have hu1t := Try.underlying26
 have hB0 : Below w.heap.size w (((w.alloc (.cells (Nc.s s.1 s.2.1 u) tyS)).alloc (.cells #[.int .i64 e] tyM)).alloc (.cells #[.int .i64 0,.int .i64 0,.slice none 0 0] tyS)) := (((Below.refl _ w).alloc (Nat.le_refl _) _).alloc (by simp) _).alloc (by simp; omega) _
 have hsz0 : (((w.alloc (.cells (Nc.s s.1 s.2.1 u) tyS)).alloc (.cells #[.int .i64 e] tyM)).alloc (.cells #[.int .i64 0,.int .i64 0,.slice none 0 0] tyS)).heap.size = w.heap.size + 3 := by simp
 have b2 : HB (((w.alloc (.cells (Nc.s s.1 s.2.1 u) tyS)).alloc (.cells #[.int .i64 e] tyM)).alloc (.cells #[.int .i64 0,.int .i64 0,.slice none 0 0] tyS)) (w.heap.size + 1) tyM #[.int .i64 e] := by
  have := (HB.new (w.alloc (.cells (Nc.s s.1 s.2.1 u) tyS)) tyM #[.int .i64 e]).alloc (.cells #[.int .i64 0,.int .i64 0,.slice none 0 0] tyS)
  rwa [World.size_alloc] at this
 have b3 : HB (((w.alloc (.cells (Nc.s s.1 s.2.1 u) tyS)).alloc (.cells #[.int .i64 e] tyM)).alloc (.cells #[.int .i64 0,.int .i64 0,.slice none 0 0] tyS)) (w.heap.size + 1 + 1) tyS #[.int .i64 0,.int .i64 0,.slice none 0 0] := by
  have := HB.new ((w.alloc (.cells (Nc.s s.1 s.2.1 u) tyS)).alloc (.cells #[.int .i64 e] tyM)) tyS #[.int .i64 0,.int .i64 0,.slice none 0 0]
  rwa [World.size_alloc,World.size_alloc] at this
 have hch := Nu.change (h.below hB0) hs id e (w.heap.size + 1) b2
 go_enter Try.func27,Try.ntmps27
 go_wp2_with (go_at_call 45; refine hch.mono ?_; clear hch; rintro en W1 ⟨n,v,out,R,err,rfl,hc,hN,hB1⟩; obtain ⟨oa,om,oc,rfl⟩ := Nv.shape hN; have o3 := b3.below hB1 b3.lt; have f0 := o3.frozen 0; have f1 := o3.frozen 1; have f2 := o3.frozen 2; have c0 := o3.cell 0; have c1 := o3.cell 1; have c2 := o3.cell 2)
 exact ⟨rfl,_,Nv.res rfl rfl (Nc.store3 o3 _ _ _),n,v,_,R,err,rfl,hc,Nest.mono (hN.ev (Nc.ev3 _ _ _) (fun b h1 _ e => by omega)) (by omega),(hB0.trans (hB1.mono hB0.size)).trans (Nc.below3 (by omega) _ _ _)⟩
theorem Nv.postR {w W : World} {A : Nat → Prop} (hA : ∀ b,A b → b < w.heap.size) {n v err : Int} {out : Value} {R : List (SDs × Value)} (hN : Nest W w.heap.size out R) (hB : Below w.heap.size w W) :
  PostR w A [.v (.agg [.int .i64 n,.int .i64 v,.sl (Ns.pV R)]),.v (.int .i64 err)] W [.agg (Nc.s n v out),.int .i64 err] noB A := by
 have hob : ∀ o ob,rdH [RD.v (.agg [.int .i64 n,.int .i64 v,.sl (Ns.pV R)]),.v (.int .i64 err)] o = some ob → False := fun o ob h => by
  match o,h with
  | 0,h => cases h
  | 1,h => cases h
  | o + 2,h => simp [rdH] at h
 have hrel : RelP W A (.sl (Ns.pV R)) out := relP_sl.2 (hN.rel (fun p hp g hg hx => by have := hA g hx; have := (Own.lt (hN.inn p hp) hg).1; omega) (fun g hg hx => by have := hA g hx; have := (Own.lt hN.own hg).1; omega))
 refine ⟨rfl,⟨fun o ob ho => (hob o ob ho).elim,fun o o' ob ob' b h1 _ _ _ => (hob o ob h1).elim,fun b hb => Nat.lt_of_lt_of_le (hA b hb) hB.size⟩,fun k rd hk => ?_,fun b _ h => h,⟨hB.os,hB.tape,hB.output,hB.size,fun q hq _ => hB.block q hq⟩,fun k ob b h1 _ => (hob k ob h1).elim⟩
 match k,hk with
 | 0,hk =>
  simp at hk
  subst hk
  refine ⟨_,rfl,⟨Nc.s n v out,rfl,rfl,fun j x hx => ?_⟩⟩
  match j,hx with
  | 0,hx => simp at hx; subst hx; exact ⟨_,rfl,.int _ _⟩
  | 1,hx => simp at hx; subst hx; exact ⟨_,rfl,.int _ _⟩
  | 2,hx => simp at hx; subst hx; exact ⟨_,rfl,hrel⟩
  | j + 3,hx => simp at hx
 | 1,hk => simp at hk; subst hk; exact ⟨_,rfl,RelP.int _ _⟩
 | k + 2,hk => simp at hk
theorem Nv.sRowOf {n v : Int} {R : List (SDs × Value)} : RowV tSSd ((n,v,R.map Prod.fst) : SSd) [.int .i64 n,.int .i64 v,.sl (Ns.pV R)] := by
 rw [Nr.sRow]
 exact ⟨_,_,rfl,rfl,_,_,rfl,rfl,_,rfl,by rw [Nr.slV]; exact .inr ⟨_,rfl,Ns.pV_rows R⟩⟩
noncomputable def E_pst : Ent := ⟨27,[.g tSSd,.c (.int .i64),.c (.int .i64)],[.g tSSd,.v (.int .i64)],fun a => (fun a => okD a.1 : SSd × Int × Int → Bool) a,fun a => (fun a => chgS a.1 a.2.1 (pstF a.2.2) : SSd × Int × Int → SSd × Int) a⟩
theorem E_pst_ok : E_pst.Ok Try.prog := by
 rintro ⟨s,id,e⟩ hp vs hv
 have hp : okD s = true := hp
 have hv : ArgsV [.g tSSd,.c (.int .i64),.c (.int .i64)] ((s,id,e) : SSd × Int × Int) vs := hv
 have q : ArgsV [.g tSSd,.c (.int .i64),.c (.int .i64)] ((s,id,e) : SSd × Int × Int) vs = ∃ v r,vs = v :: r ∧ ArgV (.g tSSd) s v ∧ ∃ v1 r1,r = v1 :: r1 ∧ ArgV (.c (.int .i64)) id v1 ∧ ∃ v2,r1 = [v2] ∧ ArgV (.c (.int .i64)) e v2 := rfl
 rw [q] at hv
 obtain ⟨v,r,rfl,k0,v1,r1,rfl,k1,v2,rfl,k2⟩ := hv
 refine ⟨fun rds h => resOK _ _ rds h,fun w A us hA hsz hrel => ?_⟩
 obtain ⟨u0,a0,b0⟩ := hrel 0 _ rfl
 obtain ⟨u1,a1,b1⟩ := hrel 1 _ rfl
 obtain ⟨u2,a2,b2⟩ := hrel 2 _ rfl
 have hus := arr3 hsz a0 a1 a2
 obtain ⟨u,rows,rfl,hu⟩ := Nr.Arg.of hA k0 b0
 have k1 := tyV_int.1 k1
 subst k1
 have k2 := tyV_int.1 k2
 subst k2
 have b1 : RelP w A (.int .i64 id) u1 := b1
 have b2 : RelP w A (.int .i64 e) u2 := b2
 cases b1; cases b2
 subst hus
 refine (Nv.post hu hp id e).mono fun en W h => ?_
 obtain ⟨n,v,out,R,err,rfl,hs,hN,hB⟩ := h
 refine ⟨[.v (.agg [.int .i64 n,.int .i64 v,.sl (Ns.pV R)]),.v (.int .i64 err)],[.agg (Nc.s n v out),.int .i64 err],_,_,?_,rfl,Nv.postR hA hN hB⟩
 show RessV [.g tSSd,.v (.int .i64)] (chgS s id (pstF e) : SSd × Int) _
 rw [hs]
 exact (⟨_,_,rfl,⟨_,rfl,Nv.sRowOf⟩,_,rfl,_,rfl,tyV_int.2 rfl⟩ : ∃ rd r,[RD.v (.agg [.int .i64 n,.int .i64 v,.sl (Ns.pV R)]),.v (.int .i64 err)] = rd :: r ∧ (∃ row,rd = .v (.agg row) ∧ RowV tSSd ((n,v,R.map Prod.fst) : SSd) row) ∧ ∃ rd2,r = [rd2] ∧ ∃ y,rd2 = .v y ∧ TyV (.int .i64) err y)
end Go.Proofs
