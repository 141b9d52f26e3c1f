/-
  Layer 30: a queue in memory: appended to behind, taken from in front. By an AI agent.
-/
import Derived.Test.YtmdmmikpmhopkaaNv
import Derived.ArgAppend
import Derived.Deep.Cut
import Derived.Test.YtmdmmikpmhopkaaK25
set_option linter.unusedVariables false
set_option linter.unusedSimpArgs false
namespace Go.Proofs
open Go.RowKit Go.Shelf Go.AL
def Kq.Q (w : World) (n0 S : Nat) (B : Option Nat) (v : Value) (q : List Int) : Prop :=
 (B = none ∧ q = [] ∧ v = .slice none 0 0) ∨
 ∃ b off cap cur,B = some b ∧ b ≠ S ∧ n0 ≤ b ∧ v = .slice (some ⟨b,off,none⟩) q.length cap ∧ q.length ≤ cap ∧ HB w b tyM cur ∧ off + cap ≤ cur.size ∧ ∀ (j : Nat) (x : Int),q[j]? = some x → cur[off + j]? = some (.int .i64 x)
theorem Kq.Q.ev {w w' : World} {n0 S : Nat} {B : Option Nat} {v : Value} {q : List Int} (h : Kq.Q w n0 S B v q) {X : Nat → Prop} (hev : Ev w w' X) (hX : ∀ b,B = some b → ¬ X b) : Kq.Q w' n0 S B v q := by
 rcases h with h | ⟨b,off,cap,cur,h1,h2,h3,h4,h5,h6,h7⟩
 ·exact .inl h
 ·exact .inr ⟨b,off,cap,cur,h1,h2,h3,h4,h5,h6.ev hev (hX b h1),h7⟩
theorem Kq.Q.lt {w : World} {n0 S : Nat} {B : Option Nat} {v : Value} {q : List Int} (h : Kq.Q w n0 S B v q) {b : Nat} (hb : B = some b) : n0 ≤ b ∧ b < w.heap.size ∧ b ≠ S := by
 rcases h with ⟨h1,_⟩ | ⟨b',off,cap,cur,h1,h2,h3,h4,h5,h6,h7⟩
 ·rw [h1] at hb; cases hb
 ·rw [h1] at hb; cases hb; exact ⟨h3,h6.lt,h2⟩
theorem Kq.new {w w' : World} {n0 S : Nat} {q : List Int} {v : Value} (hn : n0 ≤ w.heap.size) (hS : S < w.heap.size) (h0 : q ≠ []) (h : w'.ownsRow w.heap.size tyM 1 v q.length (q.map fun x => (.int .i64 x : Value))) : ∃ B,Kq.Q w' n0 S B v q ∧ ∀ b,B = some b → w.heap.size ≤ b := by
 rcases h.2 with ⟨_,h1⟩ | ⟨g,cap,cur,e1,e2,e3,e4,_,e5,e6⟩
 ·exact absurd (List.length_eq_zero_iff.1 h1) h0
 ·refine ⟨some g,.inr ⟨g,0,cap,cur,rfl,by omega,by omega,e1,e4,e3,by omega,fun j x hx => ?_⟩,fun b hb => by cases hb; exact e2⟩
  have hj : j < q.length := (List.getElem?_eq_some_iff.1 hx).1
  have h2 : (cur.toList.take (q.length * 1))[j]? = some (.int .i64 x) := by rw [e6,List.getElem?_map,hx]; rfl
  rw [List.getElem?_take,if_pos (by omega)] at h2
  rw [Nat.zero_add]
  simpa using h2
theorem Kq.app {w : World} {n0 S : Nat} {B : Option Nat} {v : Value} {q : List Int} (h : Kq.Q w n0 S B v q) (e : Int) {bx : Nat} (hx : HB w bx tyM #[.int .i64 e]) (hl : q.length ≤ 1000) (hS : S < w.heap.size) (hn : n0 ≤ w.heap.size) :
  ∃ v' w',(Builtin.append_ #[22,22] 22 #[v,.slice (some ⟨bx,0,none⟩) 1 1]).run Try.prog w = .ok v' w' ∧ ∃ B',Kq.Q w' n0 S B' v' (q ++ [e]) ∧ Ev w w' (fun b => B = some b) ∧ ∀ b,B' = some b → B = some b ∨ w.heap.size ≤ b := by
 obtain ⟨i0,hi0,hz0,hz1,hz2⟩ := info_parts Nq.infoI
 have hu4t := Try.underlying22
 have hnews : ∀ j u,[(.int .i64 e : Value)][j]? = some u → w.cell? ((⟨bx,0,none⟩ : Addr).add j) = some u := World.news_of_block hx
 have h1 : ∀ u ∈ [(.int .i64 e : Value)],u.oneCell' = true := fun u hu => by rw [List.mem_singleton.1 hu]; rfl
 rcases h with ⟨rfl,rfl,rfl⟩ | ⟨b,off,cap,cur,rfl,h2,h3,rfl,h5,h6,h7,h8⟩
 ·obtain ⟨g,cap,w',hr,hown,hgrow,hat,hlt⟩ := run_append_lies (P := Try.prog) w 22 22 w.heap.size tyM i0 _ 1 8 hu4t hi0 hz0 hz1 hz2 rfl (by omega) (.slice none 0 0) 0 [] (World.ownsRow_nil w _ tyM 1) ⟨bx,0,none⟩ 1 1 [.int .i64 e] rfl hnews h1 (by omega) (by simp only [maxLen]; omega) (by omega) (Nat.le_refl _) w.heap.size rfl
  obtain ⟨B',g1,g2⟩ := Kq.new (w := w) (S := S) hn hS (q := [e]) (by simp) hown
  exact ⟨_,w',hr,B',g1,⟨hgrow.os,hgrow.tape,hgrow.output,hgrow.size,fun k hk _ => hgrow.block k hk (by simp [Value.ownBlock])⟩,fun b hb => .inr (g2 b hb)⟩
 ·by_cases hroom : q.length + 1 ≤ cap
  ·have hcell : ∀ j,j < [(.int .i64 e : Value)].length → (w.cell? ⟨b,off + q.length * i0.size + j,none⟩).isSome = true := fun j hj => by
    rw [h6.cell,hz1]
    simp at hj
    rw [Array.getElem?_eq_getElem (by omega)]; rfl
   have hr := run_append_room_cells (P := Try.prog) w 22 22 tyM i0 hu4t hi0 b off q.length cap ⟨bx,0,none⟩ 1 1 [.int .i64 e] (by rw [hz1]; rfl) hnews h1 hroom hcell (fun j _ => h6.frozen _)
   rw [hz1,Nat.mul_one] at hr
   have hse : w.setCells b (off + q.length) [(.int .i64 e : Value)] = w.setCell ⟨b,off + q.length,none⟩ (.int .i64 e) := rfl
   rw [hse] at hr
   refine ⟨_,_,hr,some b,.inr ⟨b,off,cap,cur.setIfInBounds (off + q.length) (.int .i64 e),rfl,h2,h3,by simp,by simp; omega,h6.set _ _,by simpa using h7,fun j x hj => ?_⟩,⟨rfl,rfl,rfl,by simp [World.setCell],fun k hk hne => Below.heap_setCell _ ⟨b,off + q.length,none⟩ _ k (fun e => hne (by rw [e]))⟩,fun b' hb' => .inl hb'⟩
   rw [Array.getElem?_setIfInBounds]
   by_cases hj2 : j < q.length
   ·rw [if_neg (by omega)]
    exact h8 j x (by rw [List.getElem?_append_left hj2] at hj; exact hj)
   ·have hje : j = q.length := by
     have := (List.getElem?_eq_some_iff.1 hj).1
     simp at this; omega
    subst hje
    rw [List.getElem?_append_right (Nat.le_refl _),Nat.sub_self] at hj
    simp at hj
    subst hj
    rw [if_pos rfl,if_pos (by omega)]
  ·obtain ⟨v',w',hr,hown,hgrow⟩ := run_append_arg_grows (P := Try.prog) w 22 22 tyM i0 _ 1 8 hu4t hi0 hz0 hz1 hz2 rfl (by omega) ⟨b,off,none⟩ q.length cap (q.map fun x => (.int .i64 x : Value)) (by simp) (fun j u hu => by
     rw [List.getElem?_map] at hu
     cases hq : q[j]? with
     | none => rw [hq] at hu; cases hu
     | some x =>
      rw [hq] at hu
      cases hu
      rw [Addr.add_mid,h6.cell]
      exact h8 j x hq) ⟨bx,0,none⟩ 1 1 [.int .i64 e] rfl hnews (by omega) (by simp only [maxLen]; omega) (by omega)
   obtain ⟨B',g1,g2⟩ := Kq.new (w := w) (S := S) hn hS (q := q ++ [e]) (by simp) (by rw [List.map_append,List.length_append]; exact hown)
   exact ⟨v',w',hr,B',g1,⟨hgrow.os,hgrow.tape,hgrow.output,hgrow.size,fun k hk _ => hgrow.block k hk (by simp)⟩,fun b hb => .inr (g2 b hb)⟩
theorem Kq.wpApp {P : Program} {w : World} {ops : Array Oper} {rest : List Oper} {o : Oper} {a : Act} {Q : Exit → Act → World → Prop} (hgd : o.guard = none) (s x : Operand) (t : TypeId)
  (ho : o.op = .call { callee := .builtin .append,args := #[s,x],argTypes := #[t,t] }) (hty : o.type = t) {v y : Value} (hs : a.eval s = v) (hx : a.eval x = y) {R : Value → World → Prop}
  (hr : ∃ v' w',(Builtin.append_ #[t,t] t #[v,y]).run P w = .ok v' w' ∧ R v' w') (h : ∀ v' w',R v' w' → wpList P ops Q rest (a.put o.dst v') w') : wpList P ops Q (o :: rest) a w := by
 refine wpList_plain hgd fun _ hK => ?_
 obtain ⟨v',w',h1,h2⟩ := hr
 unfold Oper.wp execOp
 simp only [ho,hty,resolve,invoke,builtin,Sem.run_bind,Sem.run_pure,Result.andThen_ok,List.map_toArray,List.map_cons,List.map_nil,hs,hx,h1]
 exact hK _ _ (h v' w' h2)
end Go.Proofs
namespace Go.Proofs
open Go.RowKit Go.Shelf Go.AL
attribute [local go_sem] Oper.semAt_some
def Kc.Ints (w : World) (zs : List Int) (v : Value) : Prop := ∃ a c,v = .slice a (zs.length : Nat) c ∧ (zs = [] ∨ ∃ b off,a = some ⟨b,off,none⟩ ∧ b < w.heap.size ∧ ∀ (j : Nat) (n : Int),zs[j]? = some n → w.cell? ⟨b,off + j,none⟩ = some (.int .i64 n))
theorem Kc.Ints.of {w : World} {A : Nat → Prop} {zs : List Int} {x : V} {v : Value} (hx : TyV (.sl [.int .i64]) zs x) (h : RelP w A x v) : Kc.Ints w zs v := by
 rw [Ns.slV] at hx
 rcases hx with ⟨rfl,rfl⟩ | ⟨rows,rfl,hr⟩
 ·cases h
  exact ⟨_,_,rfl,.inl rfl⟩
 ·have hl := All2.len hr
  rcases relP_sl.1 h with ⟨⟨a,rfl⟩,rfl⟩ | ⟨b,off,cap,es,f,rfl,hcap,hb,hes,hc,hrel⟩
  ·have : zs = [] := List.length_eq_zero_iff.1 (hl.trans rfl)
   subst this
   exact ⟨a,0,rfl,.inl rfl⟩
  ·refine ⟨_,cap,by rw [show zs.length = rows.length from hl],?_⟩
   by_cases hz : zs = []
   ·exact .inl hz
   ·have hne : rows ≠ [] := fun e => hz (List.length_eq_zero_iff.1 (hl.trans (by rw [e]; rfl)))
    refine .inr ⟨b,off,rfl,(hb hne).1,fun j n hj => ?_⟩
    obtain ⟨row,h3,h4⟩ := All2.get hr j n hj
    have h4 := Ns.mRow' h4
    subst h4
    have he := hes _ (List.mem_of_getElem? h3)
    have he : es = 1 := he.symm
    subst he
    have h5 := hc j _ h3 0 _ rfl
    have h6 := hrel j _ h3 0 _ rfl
    rw [Nat.mul_one,Nat.add_zero] at h5
    rw [h5]
    generalize f j 0 = z at h6
    cases h6
    rfl
theorem Kc.Ints.below {w w' : World} {zs : List Int} {v : Value} (h : Kc.Ints w zs v) (hb : Below w.heap.size w w') : Kc.Ints w' zs v := by
 obtain ⟨a,c,e,h1⟩ := h
 refine ⟨a,c,e,h1.imp id fun ⟨b,off,e2,h2,h3⟩ => ⟨b,off,e2,Nat.lt_of_lt_of_le h2 hb.size,fun j n hj => ?_⟩⟩
 rw [hb.cell (p := ⟨b,off + j,none⟩) h2]
 exact h3 j n hj
theorem Kc.app0 {w : World} {zs : List Int} {v : Value} (h : Kc.Ints w zs v) (hl : zs.length ≤ 1000) :
  ∃ v' w',(Builtin.append_ #[22,22] 22 #[.slice none 0 0,v]).run Try.prog w = .ok v' w' ∧ w'.ownsRow w.heap.size tyM 1 v' zs.length (Ns.ms zs) ∧ w.grownBy w' none := by
 obtain ⟨i0,hi0,hz0,hz1,hz2⟩ := info_parts Nq.infoI
 have hu4t := Try.underlying22
 obtain ⟨a,c,rfl,h1⟩ := h
 by_cases hz : zs = []
 ·subst hz
  refine ⟨.slice none 0 0,w,?_,World.ownsRow_nil w _ tyM 1,⟨rfl,rfl,rfl,Nat.le_refl _,fun _ _ _ => rfl⟩⟩
  simp [Builtin.append_,run_underlying hu4t,sizeOf,typeInfo,hi0,Builtin.lenOf,Builtin.firstCells]
  cases a <;> simp [loadCells,loadCellsFrom]
 ·obtain ⟨b,off,rfl,hb,hc⟩ := h1.resolve_left hz
  have h0 : 0 < zs.length := List.length_pos_iff.2 hz
  have hms : (Ns.ms zs).length = zs.length := by have := flat_len (f := Ns.m) (k := 1) (fun _ => rfl) zs; unfold Ns.ms; omega
  obtain ⟨g,cap,w',hr,hown,hgrow,_,_⟩ := run_append_lies (P := Try.prog) w 22 22 w.heap.size tyM i0 _ 1 8 hu4t hi0 hz0 hz1 hz2 rfl (by omega) (.slice none 0 0) 0 [] (World.ownsRow_nil w _ tyM 1) ⟨b,off,none⟩ zs.length c (Ns.ms zs) (by omega) (fun j u hu => by
   have hj : j < zs.length := by rw [← hms]; exact (List.getElem?_eq_some_iff.1 hu).1
   obtain ⟨n,hn⟩ : ∃ n,zs[j]? = some n := ⟨_,List.getElem?_eq_getElem hj⟩
   have h2 := flat_get (f := Ns.m) (k := 1) (fun _ => rfl) zs j 0 n hn (by omega)
   rw [Nat.mul_one,Nat.add_zero] at h2
   have h2 : (Ns.ms zs)[j]? = some (.int .i64 n) := h2
   rw [h2] at hu
   cases hu
   rw [Addr.add_mid]
   exact hc j n hn) (Ns.ms_one zs) h0 (by simp only [maxLen]; omega) (by omega) (Nat.le_refl _) w.heap.size rfl
  rw [Nat.zero_add,List.nil_append] at hown
  rw [Nat.zero_add] at hr
  exact ⟨_,w',hr,hown,⟨hgrow.os,hgrow.tape,hgrow.output,hgrow.size,fun k hk _ => hgrow.block k hk (by simp [Value.ownBlock])⟩⟩
theorem Kc.infoD : (Try.prog.info? 53).map (fun i => (i.zero,i.size,i.bytes)) = some (some (.agg #[.int .i64 0,.int .i64 0,.int .i64 0,.int .i64 0,.bool false,.bool false,.bool false,.int .i64 0,.int .i64 0,.int .i64 0,.slice none 0 0]),11,88) := by kernel_rfl
theorem Kc.app1 {w : World} {n0 : Nat} {out : Value} {R : List (SDs × Value)} (h : Nest w n0 out R) {d : SDs} {v : Value} (hv : w.ownsRow n0 tyM 1 v (ups d).length (Ns.ms (ups d))) (hfr : ∀ g,v.ownBlock = some g → out.ownBlock ≠ some g ∧ ∀ p ∈ R,p.2.ownBlock ≠ some g)
  {B : Nat} (hB : HB w B tyP (Ns.p (d,v)).toArray) (hR : R.length ≤ 1000) (hn : n0 ≤ w.heap.size) :
  ∃ v' w',(Builtin.append_ #[24,24] 24 #[out,.slice (some ⟨B,0,none⟩) 1 1]).run Try.prog w = .ok v' w' ∧ Nest w' n0 v' (R ++ [(d,v)]) ∧ Ev w w' (fun g => out.ownBlock = some g) := by
 obtain ⟨i0,hi0,hz0,hz1,hz2⟩ := info_parts Kc.infoD
 have hu := Try.underlying24
 have h1 : ∀ u ∈ Ns.p (d,v),u.oneCell' = true := fun u hu => by
  simp only [Ns.p,List.mem_cons,List.not_mem_nil,or_false] at hu
  rcases hu with rfl | rfl | rfl | rfl | rfl | rfl | rfl | rfl | rfl | rfl | rfl
  all_goals first
   | rfl
   | exact own_one hv
 obtain ⟨g,cap,w',hr,hown,hgrow,hat,hlt⟩ := run_append_lies (P := Try.prog) w 24 24 n0 tyP i0 _ 11 88 hu hi0 hz0 hz1 hz2 rfl (by omega) out R.length (Ns.ps R) h.own ⟨B,0,none⟩ 1 1 (Ns.p (d,v)) rfl (World.news_of_block (cs := (Ns.p (d,v)).toArray) hB) h1 (by omega) (by simp only [maxLen]; omega) (by omega) hn w.heap.size rfl
 have hev : Ev w w' (fun g => out.ownBlock = some g) := ⟨hgrow.os,hgrow.tape,hgrow.output,hgrow.size,fun k hk hne => hgrow.block k hk (fun e => hne e.symm)⟩
 have hps : Ns.ps (R ++ [(d,v)]) = Ns.ps R ++ Ns.p (d,v) := by unfold Ns.ps; rw [List.flatMap_append]; simp
 have hnew : ∀ b,(Value.slice (some ⟨g,0,none⟩) (R.length + 1) cap).ownBlock = some b → b = g := fun b hb => by simpa [Value.ownBlock] using hb.symm
 have old : ∀ p ∈ R,∀ b,p.2.ownBlock = some b → b ≠ g := fun p hp b hb e => by
  subst e
  rcases hat with hat | hat
  ·exact h.ne p hp b hb hat
  ·have := (Own.lt (h.inn p hp) hb).2; omega
 have oldv : ∀ b,v.ownBlock = some b → b ≠ g := fun b hb e => by
  subst e
  rcases hat with hat | hat
  ·exact (hfr b hb).1 hat
  ·have := (Own.lt hv hb).2; omega
 refine ⟨_,w',hr,⟨by rw [List.length_append,hps]; exact hown,fun p hp => ?_,fun p hp b hb e => ?_,?_⟩,hev⟩
 ·rcases List.mem_append.1 hp with hp | hp
  ·exact Own.ev (h.inn p hp) hev (fun b hb e => h.ne p hp b hb e)
  ·rw [List.mem_singleton.1 hp]
   exact Own.ev hv hev (fun b hb e => (hfr b hb).1 e)
 ·have := hnew b e
  rcases List.mem_append.1 hp with hp | hp
  ·exact old p hp b hb this
  ·rw [List.mem_singleton.1 hp] at hb; exact oldv b hb this
 ·rw [List.pairwise_append]
  refine ⟨h.dis,List.pairwise_singleton _ _,fun p hp q hq b hb e => ?_⟩
  rw [List.mem_singleton.1 hq] at e
  exact (hfr b e).2 p hp hb
def Kc.Rows (w : World) (ts : List SDs) (u : Value) : Prop := ∃ a c,u = .slice a (ts.length : Nat) c ∧ ∀ (k : Nat) (d : SDs),ts[k]? = some d → ∃ b off v,a = some ⟨b,off,none⟩ ∧ b < w.heap.size ∧ Kc.Ints w (ups d) v ∧
 ∀ (j : Nat) (x : Value),(Ns.p (d,v))[j]? = some x → w.cell? ⟨b,off + k * 11 + j,none⟩ = some x
theorem Kc.Rows.of {w : World} {A : Nat → Prop} {ts : List SDs} {rows : List (List V)} {u : Value} (h1 : RowsV tSDs ts rows) (h : SlAt w A A rows u) : Kc.Rows w ts u := by
 have hl := All2.len h1
 rcases h with ⟨⟨a,rfl⟩,rfl⟩ | ⟨b,off,cap,es,f,rfl,hcap,hb,hes,hc,hr⟩
 ·have : ts = [] := List.length_eq_zero_iff.1 (hl.trans rfl)
  subst this
  exact ⟨a,0,rfl,fun k d hk => by simp at hk⟩
 ·refine ⟨_,cap,by rw [show ts.length = rows.length from hl],fun k d hk => ?_⟩
  obtain ⟨row,hrow,hR2⟩ := All2.get h1 k d hk
  have hne : rows ≠ [] := fun e => by rw [e] at hrow; simp at hrow
  rw [Ns.pRow] at hR2
  obtain ⟨v0,r0,rfl,rfl,v1,r1,rfl,rfl,v2,r2,rfl,rfl,v3,r3,rfl,rfl,v4,r4,rfl,rfl,v5,r5,rfl,rfl,v6,r6,rfl,rfl,v7,r7,rfl,rfl,v8,r8,rfl,rfl,v9,r9,rfl,rfl,v10,rfl,h10⟩ := hR2
  have he := hes _ (List.mem_of_getElem? hrow)
  have he : es = 11 := he.symm
  subst he
  refine ⟨b,off,f k 10,rfl,(hb hne).1,Kc.Ints.of h10 (hr k _ hrow 10 _ rfl),fun j x hx => ?_⟩
  have key : ∀ (j : Nat) (y : V),j < 11 → _ := fun j y hj => hc k _ hrow j y
  match j,hx with
  | 0,hx => simp at hx; subst hx; rw [hc k _ hrow 0 _ rfl]; have h9 := hr k _ hrow 0 _ rfl; generalize f k 0 = z at h9; cases h9; rfl
  | 1,hx => simp at hx; subst hx; rw [hc k _ hrow 1 _ rfl]; have h9 := hr k _ hrow 1 _ rfl; generalize f k 1 = z at h9; cases h9; rfl
  | 2,hx => simp at hx; subst hx; rw [hc k _ hrow 2 _ rfl]; have h9 := hr k _ hrow 2 _ rfl; generalize f k 2 = z at h9; cases h9; rfl
  | 3,hx => simp at hx; subst hx; rw [hc k _ hrow 3 _ rfl]; have h9 := hr k _ hrow 3 _ rfl; generalize f k 3 = z at h9; cases h9; rfl
  | 4,hx => simp at hx; subst hx; rw [hc k _ hrow 4 _ rfl]; have h9 := hr k _ hrow 4 _ rfl; generalize f k 4 = z at h9; cases h9; rfl
  | 5,hx => simp at hx; subst hx; rw [hc k _ hrow 5 _ rfl]; have h9 := hr k _ hrow 5 _ rfl; generalize f k 5 = z at h9; cases h9; rfl
  | 6,hx => simp at hx; subst hx; rw [hc k _ hrow 6 _ rfl]; have h9 := hr k _ hrow 6 _ rfl; generalize f k 6 = z at h9; cases h9; rfl
  | 7,hx => simp at hx; subst hx; rw [hc k _ hrow 7 _ rfl]; have h9 := hr k _ hrow 7 _ rfl; generalize f k 7 = z at h9; cases h9; rfl
  | 8,hx => simp at hx; subst hx; rw [hc k _ hrow 8 _ rfl]; have h9 := hr k _ hrow 8 _ rfl; generalize f k 8 = z at h9; cases h9; rfl
  | 9,hx => simp at hx; subst hx; rw [hc k _ hrow 9 _ rfl]; have h9 := hr k _ hrow 9 _ rfl; generalize f k 9 = z at h9; cases h9; rfl
  | 10,hx => simp at hx; subst hx; exact hc k _ hrow 10 _ rfl
  | j + 11,hx => simp at hx
theorem Kc.Rows.below {w w' : World} {ts : List SDs} {u : Value} (h : Kc.Rows w ts u) (hb : Below w.heap.size w w') : Kc.Rows w' ts u := by
 obtain ⟨a,c,e,h1⟩ := h
 refine ⟨a,c,e,fun k d hk => ?_⟩
 obtain ⟨b,off,v,e1,e2,e3,e4⟩ := h1 k d hk
 refine ⟨b,off,v,e1,Nat.lt_of_lt_of_le e2 hb.size,e3.below hb,fun j x hx => ?_⟩
 rw [hb.cell (p := ⟨b,off + k * 11 + j,none⟩) e2]
 exact e4 j x hx
theorem Kc.res {W : World} {B : Nat} {n v : Int} {u : Value} {tmps : Array Value} (h2 : tmps[2]? = some (.pointer (some ⟨B,0,none⟩))) (hb : HB W B tyS (Nc.s n v u)) :
  (results Try.f17 tmps).run Try.prog W = .ok (.agg (Nc.s n v u)) W := by
 have c0 := hb.cell 0
 have c1 := hb.cell 1
 have c2 := hb.cell 2
 simp [results,Try.f17,go_sem,h2,c0,c1,c2]
structure Kc.Mid (w wr : World) (n v : Int) (u : Value) (ts : List SDs) (k : Nat) (R : List (SDs × Value)) (out : Value) : Prop where
 bel : Below w.heap.size w wr
 b1 : HB wr w.heap.size tyS (Nc.s n v u)
 b2 : HB wr (w.heap.size + 1) tyS #[.int .i64 0,.int .i64 0,.slice none 0 0]
 b3 : HB wr (w.heap.size + 2) tyS (Nc.s n v out)
 nest : Nest wr (w.heap.size + 3) out R
 fst : R.map Prod.fst = ts.take k
theorem Nest.shape {W : World} {n0 : Nat} {out : Value} {R : List (SDs × Value)} (h : Nest W n0 out R) : ∃ a m c,out = .slice a m c := by
 rcases h.own.2 with ⟨e,_⟩ | ⟨g,cap,cur,e,_⟩ <;> exact ⟨_,_,_,e⟩
set_option maxRecDepth 100000 in
set_option maxHeartbeats 4000000 in
theorem Kc.calls (w : World) (n v : Int) (u : Value) (ts : List SDs) (hlen : ts.length ≤ 1000) (hup : ∀ d ∈ ts,(ups d).length ≤ 1000) (hu : Kc.Rows w ts u) :
  Calls Try.prog 17 #[.agg (Nc.s n v u)] w fun en w' => ∃ out R,en = .returned (.agg (Nc.s n v out)) ∧ R.map Prod.fst = ts ∧ Nest w' w.heap.size out R ∧ Below w.heap.size w w' := by
 have hu1t := Try.underlying26
 have hu2t := Try.underlying24
 have hu3t := Try.underlying53
 have hu4t := Try.underlying22
 have hu0 := hu
 obtain ⟨ua,uc,rfl,hrow⟩ := hu
 have hM0 : Kc.Mid w (((w.alloc (.cells (Nc.s n v (.slice ua (ts.length : Nat) uc)) tyS)).alloc (.cells #[.int .i64 0,.int .i64 0,.slice none 0 0] tyS)).alloc (.cells (Nc.s n v (.slice none 0 0)) tyS)) n v (.slice ua (ts.length : Nat) uc) ts 0 [] (.slice none 0 0) := by
  have b1 := ((HB.new w tyS (Nc.s n v (.slice ua (ts.length : Nat) uc))).alloc (.cells #[.int .i64 0,.int .i64 0,.slice none 0 0] tyS)).alloc (.cells (Nc.s n v (.slice none 0 0)) tyS)
  have b2 := (HB.new (w.alloc (.cells (Nc.s n v (.slice ua (ts.length : Nat) uc)) tyS)) tyS #[.int .i64 0,.int .i64 0,.slice none 0 0]).alloc (.cells (Nc.s n v (.slice none 0 0)) tyS)
  have b3 := HB.new ((w.alloc (.cells (Nc.s n v (.slice ua (ts.length : Nat) uc)) tyS)).alloc (.cells #[.int .i64 0,.int .i64 0,.slice none 0 0] tyS)) tyS (Nc.s n v (.slice none 0 0))
  rw [World.size_alloc] at b2
  rw [World.size_alloc,World.size_alloc] at b3
  exact ⟨(((Below.refl _ w).alloc (Nat.le_refl _) _).alloc (by simp) _).alloc (by simp; omega) _,b1,b2,b3,⟨⟨rfl,.inl ⟨rfl,rfl⟩⟩,fun p hp => (by cases hp),fun p hp => (by cases hp),.nil⟩,rfl⟩
 go_enter Try.func17,Try.ntmps17
 go_wp2
 go_loopw [4] (fun i wr => ∃ (k : Nat) (R : List (SDs × Value)) (out : Value),k ≤ ts.length ∧ i = .int .i64 (k : Int) ∧ Kc.Mid w wr n v (.slice ua (ts.length : Nat) uc) ts k R out) (fun i _ => ts.length - (intOf i).toNat)
 case atStart => exact ⟨0,[],_,Nat.zero_le _,rfl,hM0⟩
 case round =>
  obtain ⟨k,R,out,hk,rfl,hM⟩ := hrel
  clear hM0
  obtain ⟨oa,om,oc,rfl⟩ := hM.nest.shape
  have c0 := hM.b1.cell 0
  have c1 := hM.b1.cell 1
  have c2 := hM.b1.cell 2
  by_cases hlt : k < ts.length
  ·have h1 : (k : Int) < (ts.length : Int) := by omega
   have hk0 : (0 : Int) ≤ (k : Int) := by omega
   obtain ⟨d,hd⟩ : ∃ d,ts[k]? = some d := ⟨_,List.getElem?_eq_getElem hlt⟩
   obtain ⟨b,off,x,rfl,hb,hx,hc⟩ := hrow k d hd
   have hbw : ∀ (j : Nat) (y : Value),(Ns.p (d,x))[j]? = some y → wr.cell? ⟨b,off + k * 11 + j,none⟩ = some y := fun j y hy => by rw [hM.bel.cell (p := ⟨b,off + k * 11 + j,none⟩) hb]; exact hc j y hy
   have r0 : wr.cell? ⟨b,off + k * 11,none⟩ = some (.int .i64 d.1) := hbw 0 _ rfl
   have r1 := hbw 1 _ rfl
   have r2 := hbw 2 _ rfl
   have r3 := hbw 3 _ rfl
   have r4 := hbw 4 _ rfl
   have r5 := hbw 5 _ rfl
   have r6 := hbw 6 _ rfl
   have r7 := hbw 7 _ rfl
   have r8 := hbw 8 _ rfl
   have r9 := hbw 9 _ rfl
   have r10 := hbw 10 _ rfl
   have hxw := hx.below (w' := wr) ⟨hM.bel.os,hM.bel.tape,hM.bel.output,hM.bel.size,hM.bel.block⟩
   have hup1 := hup d (List.mem_of_getElem? hd)
   obtain ⟨xa,xm,xc,rfl⟩ : ∃ a m c,x = .slice a m c := by obtain ⟨a,c,e,_⟩ := hx; exact ⟨_,_,_,e⟩
   clear hbw hrow hc hu0
   go_upto_region 7 with fail
   have hb1 : Below wr.heap.size wr (wr.alloc (.cells (Ns.p (d,.slice xa xm xc)).toArray tyP)) := (Below.refl _ wr).alloc (Nat.le_refl _) _
   have hx1 := hxw.below hb1
   have q0 : wr.heap.size < (wr.alloc (.cells (Ns.p (d,.slice xa xm xc)).toArray tyP)).heap.size := by simp
   have q1 := HB.new wr tyP (Ns.p (d,.slice xa xm xc)).toArray
   have e10 := q1.cell 10
   have hlw : w.heap.size + 2 < wr.heap.size := hM.b3.lt
   have happ : ∃ v' w',(Builtin.append_ #[22,22] 22 #[.slice none 0 0,.slice xa xm xc]).run Try.prog (wr.alloc (.cells (Ns.p (d,.slice xa xm xc)).toArray tyP)) = .ok v' w' ∧
     ∃ va vm vc,v' = .slice va vm vc ∧ w'.cell? ⟨wr.heap.size,10,none⟩ = some (.slice xa xm xc) ∧ w'.frozen? ⟨wr.heap.size,10,none⟩ = false ∧
      Below wr.heap.size wr (w'.setCell ⟨wr.heap.size,10,none⟩ (.slice va vm vc)) ∧ HB (w'.setCell ⟨wr.heap.size,10,none⟩ (.slice va vm vc)) wr.heap.size tyP (Ns.p (d,.slice va vm vc)).toArray ∧
      (w'.setCell ⟨wr.heap.size,10,none⟩ (.slice va vm vc)).ownsRow (wr.heap.size + 1) tyM 1 (.slice va vm vc) (ups d).length (Ns.ms (ups d)) := by
    obtain ⟨v',w',g1,g2,g3⟩ := Kc.app0 hx1 hup1
    obtain ⟨va,vm,vc,rfl⟩ : ∃ a m c,v' = .slice a m c := by rcases g2.2 with ⟨e,_⟩ | ⟨g,cap,cur,e,_⟩ <;> exact ⟨_,_,_,e⟩
    have hev : Ev (wr.alloc (.cells (Ns.p (d,.slice xa xm xc)).toArray tyP)) w' (fun _ => False) := ⟨g3.os,g3.tape,g3.output,g3.size,fun q hq _ => g3.block q hq (by simp)⟩
    have q2 := q1.ev hev (fun h => h)
    have ev2 : Ev w' (w'.setCell ⟨wr.heap.size,10,none⟩ (.slice va vm vc)) (fun b => b = wr.heap.size) := ⟨rfl,rfl,rfl,by simp [World.setCell],fun q hq hne => Below.heap_setCell w' ⟨wr.heap.size,10,none⟩ _ q hne⟩
    have hsz : (wr.alloc (.cells (Ns.p (d,.slice xa xm xc)).toArray tyP)).heap.size = wr.heap.size + 1 := by simp
    rw [hsz] at g2
    refine ⟨_,w',g1,va,vm,vc,rfl,q2.cell 10,q2.frozen 10,?_,q2.set 10 (.slice va vm vc),Own.ev g2 ev2 (fun g hg e => by have := (Own.lt g2 hg).1; omega)⟩
    exact (hb1.trans ⟨hev.os,hev.tape,hev.output,hev.size,fun q hq => hev.block q (by rw [hsz]; omega) (fun h => h)⟩).setCell (p := ⟨wr.heap.size,10,none⟩) (Nat.le_refl _) _
   clear r0 r1 r2 r3 r4 r5 r6 r7 r8 r9 r10 hx1 hxw hx q1
   go_upto_region 8 with (at_builtin; go_loud (refine Kq.wpApp rfl (.const (.slice none 0 0)) (.tmp 21) 22 rfl rfl rfl rfl happ ?_; rintro v' w' ⟨va,vm,vc,rfl,hc1,hf1,hbw,hbx,hown⟩))
   clear happ hc1 hf1 hb1 q0 e10
   generalize w'.setCell ⟨wr.heap.size,10,none⟩ (.slice va vm vc) = W3 at *
   have hB3 : Below w.heap.size w W3 := hM.bel.trans (hbw.mono hM.bel.size)
   have p3 := hM.b3.below hbw hM.b3.lt
   have happ : ∃ v' w',(Builtin.append_ #[24,24] 24 #[.slice oa om oc,.slice (some ⟨W3.heap.size,0,none⟩) 1 1]).run Try.prog (W3.alloc (.cells (Ns.p (d,.slice va vm vc)).toArray tyP)) = .ok v' w' ∧
     ∃ a2 m2 c2,v' = .slice a2 m2 c2 ∧ w'.cell? ⟨w.heap.size + 2,2,none⟩ = some (.slice oa om oc) ∧ w'.frozen? ⟨w.heap.size + 2,2,none⟩ = false ∧
      Kc.Mid w (w'.setCell ⟨w.heap.size + 2,2,none⟩ (.slice a2 m2 c2)) n v (.slice (some ⟨b,off,none⟩) (ts.length : Nat) uc) ts (k + 1) (R ++ [(d,.slice va vm vc)]) (.slice a2 m2 c2) := by
    have hal : Below W3.heap.size W3 (W3.alloc (.cells (Ns.p (d,.slice va vm vc)).toArray tyP)) := (Below.refl _ W3).alloc (Nat.le_refl _) _
    have hbx4 : Below wr.heap.size wr (W3.alloc (.cells (Ns.p (d,.slice va vm vc)).toArray tyP)) := hbw.trans (hal.mono hbw.size)
    have N4 := hM.nest.below hbx4
    have V4 := own_mono (Own.ev hown (below_ev hal) (fun g hg hx => by have := (Own.lt hown hg).2; omega)) (show w.heap.size + 3 ≤ wr.heap.size + 1 by omega)
    have hRl : R.length = k := by
     have := congrArg List.length hM.fst
     rw [List.length_map,List.length_take] at this
     omega
    have hs4 := hbx4.size
    obtain ⟨v',w',g1,g2,g3⟩ := Kc.app1 N4 V4 (fun g hg => by
     have h1 := (Own.lt hown hg).1
     exact ⟨fun e => by have := (Own.lt hM.nest.own e).2; omega,fun p hp e => by have := (Own.lt (hM.nest.inn p hp) e).2; omega⟩) (HB.new W3 tyP (Ns.p (d,.slice va vm vc)).toArray) (by omega) (by omega)
    obtain ⟨a2,m2,c2,rfl⟩ := g2.shape
    have hout : ∀ g,(Value.slice oa om oc).ownBlock = some g → w.heap.size + 3 ≤ g := fun g hg => (Own.lt hM.nest.own hg).1
    have b1' := (hM.b1.below hbx4 hM.b1.lt).ev g3 (fun e => by have := hout _ e; omega)
    have b2' := (hM.b2.below hbx4 hM.b2.lt).ev g3 (fun e => by have := hout _ e; omega)
    have b3' := (hM.b3.below hbx4 hM.b3.lt).ev g3 (fun e => by have := hout _ e; omega)
    have ev2 : Ev w' (w'.setCell ⟨w.heap.size + 2,2,none⟩ (.slice a2 m2 c2)) (fun b => b = w.heap.size + 2) := ⟨rfl,rfl,rfl,by simp [World.setCell],fun q hq hne => Below.heap_setCell w' ⟨w.heap.size + 2,2,none⟩ _ q hne⟩
    refine ⟨_,w',g1,a2,m2,c2,rfl,b3'.cell 2,b3'.frozen 2,?_,b1'.ev ev2 (by omega),b2'.ev ev2 (by omega),b3'.set 2 _,g2.ev ev2 (fun g h1 _ e => by omega),?_⟩
    ·exact ((hB3.trans (hal.mono hB3.size)).trans (ev_below_n g3 (fun g hg => by have := hout _ hg; omega) (by omega))).setCell (p := ⟨w.heap.size + 2,2,none⟩) (by show w.heap.size ≤ w.heap.size + 2; omega) _
    ·rw [List.map_append,hM.fst,List.take_add_one,hd]; rfl
   have d2 := p3.cell 2
   have e0 := hbx.cell 0
   have e1 := hbx.cell 1
   have e2 := hbx.cell 2
   have e3 := hbx.cell 3
   have e4 := hbx.cell 4
   have e5 := hbx.cell 5
   have e6 := hbx.cell 6
   have e7 := hbx.cell 7
   have e8 := hbx.cell 8
   have e9 := hbx.cell 9
   have e10 := hbx.cell 10
   clear hM hbw hown hbx p3 hB3 hd hup1 hlt
   go_wp2_with (at_builtin; go_loud (refine Kq.wpApp rfl (.tmp 25) (.tmp 27) 24 rfl rfl rfl rfl happ ?_; rintro v2 w2 ⟨a2,m2,c2,rfl,hc2,hf2,hM2⟩))
   exact ⟨⟨k + 1,_,_,by omega,by congr 1,hM2⟩,by simp [intOf]; omega⟩
  ·obtain rfl : k = ts.length := by omega
   have h1 : ¬ (ts.length : Int) < (ts.length : Int) := by omega
   have d0 := hM.b3.cell 0
   have d1 := hM.b3.cell 1
   have d2 := hM.b3.cell 2
   have k0 := hM.b2.cell 0
   have k1 := hM.b2.cell 1
   have k2 := hM.b2.cell 2
   have f0 := hM.b2.frozen 0
   have f1 := hM.b2.frozen 1
   have f2 := hM.b2.frozen 2
   go_wp2
   refine ⟨rfl,_,Kc.res rfl (Nc.store3 hM.b2 _ _ _),_,rfl,R,by rw [hM.fst,List.take_length],?_,hM.bel.trans (Nc.below3 (by omega) _ _ _)⟩
   exact Nest.mono (hM.nest.ev (Nc.ev3 _ _ _) (fun b h1 _ e => by omega)) (by omega)
end Go.Proofs
namespace Go.Proofs
open Go.RowKit Go.Shelf Go.AL
attribute [local go_sem] Oper.semAt_some
theorem Kc.ores {W : World} {B : Nat} {n v k err : Int} {u : Value} {tmps : Array Value} (h4 : tmps[4]? = some (.pointer (some ⟨B,0,none⟩))) (h5 : tmps[5]? = some (.int .i64 k)) (h6 : tmps[6]? = some (.int .i64 err)) (hb : HB W B tyS (Nc.s n v u)) :
  (results Try.f51 tmps).run Try.prog W = .ok (.tuple #[.agg (Nc.s n v u),.int .i64 k,.int .i64 err]) W := by
 have c0 := hb.cell 0
 have c1 := hb.cell 1
 have c2 := hb.cell 2
 simp [results,Try.f51,go_sem,h4,h5,h6,c0,c1,c2]
theorem Kc.val {w : World} {A : Nat → Prop} {s : SSd} {u : Value} {rows : List (List V)} (h : Nr.Arg w A s u rows) :
  Calls Try.prog 21 #[.agg (Nc.s s.1 s.2.1 u)] w fun en w' => en = .returned (.bool (valS s)) ∧ Below w.heap.size w w' :=
 Ns.callB (b := valS s) E_rva_ok (s : SSd) rfl rfl HEq.rfl (ArgsAt.one h.agg)
theorem Kc.at {w : World} {A : Nat → Prop} {s : SSd} {u : Value} {rows : List (List V)} (h : Nr.Arg w A s u rows) (hs : okD s = true) (id : Int) :
  Calls Try.prog 34 #[.agg (Nc.s s.1 s.2.1 u),.int .i64 id] w fun en w' => en = .returned (.int .i64 (atS (s,id))) ∧ Below w.heap.size w w' :=
 Ns.callI (b := atS (s,id)) E_rat_ok ((s,id) : SSd × Int) rfl hs HEq.rfl (ArgsAt.two h.agg ArgAt.int)
theorem Kc.cpy {w : World} {A : Nat → Prop} {s : SSd} {u : Value} {rows : List (List V)} (h : Nr.Arg w A s u rows) (hs : okD s = true) :
  Calls Try.prog 17 #[.agg (Nc.s s.1 s.2.1 u)] w fun en w' => ∃ out R,en = .returned (.agg (Nc.s s.1 s.2.1 out)) ∧ R.map Prod.fst = s.2.2 ∧ Nest w' w.heap.size out R ∧ Below w.heap.size w w' :=
 Kc.calls w s.1 s.2.1 u s.2.2 (okD_len hs) (fun d hd => okD_mem hs hd) (Kc.Rows.of h.hrows h.sl)
theorem Nr.Arg.shape {w : World} {A : Nat → Prop} {s : SSd} {u : Value} {rows : List (List V)} (h : Nr.Arg w A s u rows) : ∃ a c,u = .slice a (s.2.2.length : Nat) c := by
 obtain ⟨a,c,e,_⟩ := Kc.Rows.of h.hrows h.sl
 exact ⟨a,c,e⟩
set_option maxRecDepth 100000 in
set_option maxHeartbeats 4000000 in
theorem Kc.open {w : World} {A : Nat → Prop} {s : SSd} {u : Value} {rows : List (List V)} (h : Nr.Arg w A s u rows) (hs : okD s = true) (id : Int) :
  ∀ Q : Ending → World → Prop,(valS s = false → ∀ W,Below w.heap.size w W → Q (.returned (.tuple #[.agg (Nc.s 0 0 (.slice none 0 0)),.int .i64 0,.int .i64 74])) W) →
   (valS s = true → opnI id s.2.2 0 < 0 → ∀ W,Below w.heap.size w W → Q (.returned (.tuple #[.agg (Nc.s 0 0 (.slice none 0 0)),.int .i64 0,.int .i64 17])) W) →
   (valS s = true → ∀ L d M,s.2.2 = L ++ d :: M → opnI id s.2.2 0 = ((L.length : Nat) : Int) → d.1 = id → dRem d = false → vdiS (d,s.1,s.2.1) = true → ∀ W out R,R.map Prod.fst = s.2.2 → Nest W w.heap.size out R → Below w.heap.size w W →
    Q (.returned (.tuple #[.agg (Nc.s s.1 s.2.1 out),.int .i64 (L.length : Int),.int .i64 0])) W) →
   Calls Try.prog 51 #[.agg (Nc.s s.1 s.2.1 u),.int .i64 id] w Q := by
 intro Q Q1 Q2 Q3
 have hu1t := Try.underlying26
 have hu2t := Try.underlying24
 have hu3t := Try.underlying53
 obtain ⟨W0,hW0⟩ : ∃ W0,W0 = (w.alloc (.cells (Nc.s s.1 s.2.1 u) tyS)).alloc (.cells #[.int .i64 0,.int .i64 0,.slice none 0 0] tyS) := ⟨_,rfl⟩
 have hB0 : Below w.heap.size w W0 := by rw [hW0]; exact ((Below.refl _ w).alloc (Nat.le_refl _) _).alloc (by simp) _
 have hsz0 : W0.heap.size = w.heap.size + 2 := by rw [hW0]; simp
 have b1 : HB W0 w.heap.size tyS (Nc.s s.1 s.2.1 u) := by rw [hW0]; exact (HB.new w tyS (Nc.s s.1 s.2.1 u)).alloc _
 have b2 : HB W0 (w.heap.size + 1) tyS #[.int .i64 0,.int .i64 0,.slice none 0 0] := by
  have := HB.new (w.alloc (.cells (Nc.s s.1 s.2.1 u) tyS)) tyS #[.int .i64 0,.int .i64 0,.slice none 0 0]
  rw [hW0]; rwa [World.size_alloc] at this
 have h0 := h.below hB0
 have hR := Kc.Rows.of h.hrows h.sl
 obtain ⟨ua,uc,rfl⟩ := h.shape
 have hval := Kc.val h0
 cases hv : valS s
 ·rw [hv] at hval
  have q1 := Q1 hv
  clear Q1 Q2 Q3 hv
  subst hW0
  go_enter Try.func51,Try.ntmps51
  go_wp2_with (go_at_call 21; refine hval.mono ?_; clear hval; rintro en W1 ⟨rfl,hB1⟩; have o2 := b2.below hB1 b2.lt; have f0 := o2.frozen 0; have f1 := o2.frozen 1; have f2 := o2.frozen 2; have c0 := o2.cell 0; have c1 := o2.cell 1; have c2 := o2.cell 2)
  exact ⟨rfl,_,Kc.ores rfl rfl rfl (Nc.store3 o2 _ _ _),q1 _ ((hB0.trans (hB1.mono hB0.size)).trans (Nc.below3 (by omega) _ _ _))⟩
 ·rw [hv] at hval
  have hat : ∀ {W : World},Below W0.heap.size W0 W → Calls Try.prog 34 #[.agg (Nc.s s.1 s.2.1 (.slice ua (s.2.2.length : Nat) uc)),.int .i64 id] W fun en w' => en = .returned (.int .i64 (atS (s,id))) ∧ Below W.heap.size W w' := fun {W} hB => Kc.at (h0.below hB) hs id
  rcases at_opn hv id with ⟨ho,hn | ⟨L,d,M,e1,e2,e3⟩⟩ | ⟨L,d,M,e1,e2,e3,e4,e5,vd⟩
  ·have q2 := Q2 hv (of_decide_eq_true ho)
   rw [hn] at hat
   clear Q1 Q2 Q3 hv ho hn
   subst hW0
   go_enter Try.func51,Try.ntmps51
   go_wp2_with (first
    | (go_at_call 21; refine hval.mono ?_; clear hval; rintro en W1 ⟨rfl,hB1⟩; have o1 := b1.below hB1 b1.lt; have d0 := o1.cell 0; have d1 := o1.cell 1; have d2 := o1.cell 2; have hat := hat hB1)
    | (go_at_call 34; refine hat.mono ?_; clear hat; rintro en W2 ⟨rfl,hB2⟩; have o2 := (b2.below hB1 b2.lt).below hB2 (Nat.lt_of_lt_of_le b2.lt hB1.size); have f0 := o2.frozen 0; have f1 := o2.frozen 1; have f2 := o2.frozen 2; have c0 := o2.cell 0; have c1 := o2.cell 1; have c2 := o2.cell 2))
   exact ⟨rfl,_,Kc.ores rfl rfl rfl (Nc.store3 o2 _ _ _),q2 _ (((hB0.trans (hB1.mono hB0.size)).trans (hB2.mono (by have := hB0.size; have := hB1.size; omega))).trans (Nc.below3 (by omega) _ _ _))⟩
  ·have q2 := Q2 hv (of_decide_eq_true ho)
   obtain ⟨ua',uc',eu,hrow⟩ := hR
   simp only [Value.slice.injEq,and_true,true_and] at eu
   obtain ⟨rfl,rfl⟩ := eu
   obtain ⟨b,off,x,rfl,hb,_,hc⟩ := hrow L.length d (by rw [e1]; simp)
   have hrm : ∀ {W : World},Below w.heap.size w W → W.cell? ⟨b,off + L.length * 11 + 6,none⟩ = some (.bool (dRem d)) := fun {W} hB => by rw [hB.cell (p := ⟨b,off + L.length * 11 + 6,none⟩) hb]; exact hc 6 _ rfl
   have hL0 : (0 : Int) ≤ ((L.length : Nat) : Int) := by omega
   have hL1 : ((L.length : Nat) : Int) < ((s.2.2.length : Nat) : Int) := by rw [e1]; simp; omega
   have hL2 : ¬ ((L.length : Nat) : Int) < 0 := by omega
   have hs0 := hB0.size
   rw [e2] at hat
   rw [e3] at hrm
   clear Q1 Q2 Q3 hv ho hrow hc e1 e2 e3
   subst hW0
   go_enter Try.func51,Try.ntmps51
   go_wp2_with (first
    | (go_at_call 21; refine hval.mono ?_; clear hval; rintro en W1 ⟨rfl,hB1⟩; have o1 := b1.below hB1 b1.lt; have d0 := o1.cell 0; have d1 := o1.cell 1; have d2 := o1.cell 2; have hat := hat hB1)
    | (go_at_call 34; refine hat.mono ?_; clear hat; rintro en W2 ⟨rfl,hB2⟩; have hB02 := (hB0.trans (hB1.mono hB0.size)).trans (hB2.mono (by have := hB1.size; omega)); have hrm2 := hrm hB02; clear hrm; have o1 := (b1.below hB1 b1.lt).below hB2 (Nat.lt_of_lt_of_le b1.lt hB1.size); have d0 := o1.cell 0; have d1 := o1.cell 1; have d2 := o1.cell 2; have o2 := (b2.below hB1 b2.lt).below hB2 (Nat.lt_of_lt_of_le b2.lt hB1.size); have f0 := o2.frozen 0; have f1 := o2.frozen 1; have f2 := o2.frozen 2; have c0 := o2.cell 0; have c1 := o2.cell 1; have c2 := o2.cell 2))
   exact ⟨rfl,_,Kc.ores rfl rfl rfl (Nc.store3 o2 _ _ _),q2 _ (hB02.trans (Nc.below3 (by omega) _ _ _))⟩
  ·have q3 := Q3 hv L d M e1 e3 e4 e5 vd
   obtain ⟨ua',uc',eu,hrow⟩ := hR
   simp only [Value.slice.injEq,and_true,true_and] at eu
   obtain ⟨rfl,rfl⟩ := eu
   obtain ⟨b,off,x,rfl,hb,_,hc⟩ := hrow L.length d (by rw [e1]; simp)
   have hrm : ∀ {W : World},Below w.heap.size w W → W.cell? ⟨b,off + L.length * 11 + 6,none⟩ = some (.bool (dRem d)) := fun {W} hB => by rw [hB.cell (p := ⟨b,off + L.length * 11 + 6,none⟩) hb]; exact hc 6 _ rfl
   have hL0 : (0 : Int) ≤ ((L.length : Nat) : Int) := by omega
   have hL1 : ((L.length : Nat) : Int) < ((s.2.2.length : Nat) : Int) := by rw [e1]; simp; omega
   have hL2 : ¬ ((L.length : Nat) : Int) < 0 := by omega
   have hs0 := hB0.size
   rw [e2] at hat
   rw [e5] at hrm
   have hcp : ∀ {W : World},Below W0.heap.size W0 W → Calls Try.prog 17 #[.agg (Nc.s s.1 s.2.1 (.slice (some ⟨b,off,none⟩) (s.2.2.length : Nat) uc))] W fun en w' => ∃ out R,en = .returned (.agg (Nc.s s.1 s.2.1 out)) ∧ R.map Prod.fst = s.2.2 ∧ Nest w' W.heap.size out R ∧ Below W.heap.size W w' := fun {W} hB => Kc.cpy (h0.below hB) hs
   clear Q1 Q2 Q3 hv hrow hc e1 e2 e3 e4 e5 vd
   subst hW0
   go_enter Try.func51,Try.ntmps51
   go_wp2_with (first
    | (go_at_call 21; refine hval.mono ?_; clear hval; rintro en W1 ⟨rfl,hB1⟩; have o1 := b1.below hB1 b1.lt; have d0 := o1.cell 0; have d1 := o1.cell 1; have d2 := o1.cell 2; have hat := hat hB1)
    | (go_at_call 34; refine hat.mono ?_; clear hat; rintro en W2 ⟨rfl,hB2⟩; have hB02 := (hB0.trans (hB1.mono hB0.size)).trans (hB2.mono (by have := hB1.size; omega)); have hrm2 := hrm hB02; clear hrm; have o1 := (b1.below hB1 b1.lt).below hB2 (Nat.lt_of_lt_of_le b1.lt hB1.size); have d0 := o1.cell 0; have d1 := o1.cell 1; have d2 := o1.cell 2; have o2 := (b2.below hB1 b2.lt).below hB2 (Nat.lt_of_lt_of_le b2.lt hB1.size); have f0 := o2.frozen 0; have f1 := o2.frozen 1; have f2 := o2.frozen 2; have c0 := o2.cell 0; have c1 := o2.cell 1; have c2 := o2.cell 2)
    | (go_at_call 17; refine (hcp (hB1.trans (hB2.mono hB1.size))).mono ?_; clear hcp; rintro en W3 ⟨out,R,rfl,hRR,hN,hB3⟩; obtain ⟨oa,om,oc,rfl⟩ := hN.shape; have o3 := o2.below hB3 o2.lt; have f0 := o3.frozen 0; have f1 := o3.frozen 1; have f2 := o3.frozen 2; have c0 := o3.cell 0; have c1 := o3.cell 1; have c2 := o3.cell 2))
   have hs2 := hB02.size
   have hs3 := hB2.size
   have hs4 := hB1.size
   exact ⟨rfl,_,Kc.ores rfl rfl rfl (Nc.store3 o3 _ _ _),q3 _ _ R hRR (Nest.mono (hN.ev (Nc.ev3 _ _ _) (fun b h1 _ e => by omega)) hs2) ((hB02.trans (hB3.mono hs2)).trans (Nc.below3 (by omega) _ _ _))⟩
end Go.Proofs
namespace Go.Proofs
open Go.RowKit Go.Shelf Go.AL
attribute [local go_sem] Oper.semAt_some
theorem chg_eq {s : SSd} {id : Int} {f : SDs → List SDs × Int} {L M : List SDs} {d : SDs} (hv : valS s = true) (e1 : s.2.2 = L ++ d :: M) (e2 : opnI id s.2.2 0 = ((L.length : Nat) : Int)) :
  chgS s id f = bif !decide ((f d).2 = 0) then (zSs,(f d).2) else ((s.1,s.2.1,L ++ (f d).1 ++ M),0) := by
 have hg : ∀ z,s.2.2.getD L.length z = d := fun z => by rw [e1]; simp
 have ht : s.2.2.take L.length = L := by rw [e1,List.take_left]
 have hd : s.2.2.drop (L.length + 1) = M := by rw [e1,show L.length + 1 = (L ++ [d]).length by simp,show L ++ d :: M = (L ++ [d]) ++ M by simp,List.drop_left]
 unfold chgS
 rw [hv,e2,Int.toNat_natCast,hg,ht,hd,decide_eq_false (show ¬ ((L.length : Nat) : Int) < 0 by omega)]
 rfl
theorem chg_74 {s : SSd} {id : Int} {f : SDs → List SDs × Int} (hv : valS s = false) : chgS s id f = (zSs,74) := by unfold chgS; rw [hv]; rfl
theorem chg_17 {s : SSd} {id : Int} {f : SDs → List SDs × Int} (hv : valS s = true) (h : opnI id s.2.2 0 < 0) : chgS s id f = (zSs,17) := by unfold chgS; rw [hv,decide_eq_true h]; rfl
theorem Kc.open74 {w : World} {A : Nat → Prop} {s : SSd} {u : Value} {rows : List (List V)} (h : Nr.Arg w A s u rows) (hs : okD s = true) (id : Int) (hv : valS s = false) :
  Calls Try.prog 51 #[.agg (Nc.s s.1 s.2.1 u),.int .i64 id] w fun en W => en = .returned (.tuple #[.agg (Nc.s 0 0 (.slice none 0 0)),.int .i64 0,.int .i64 74]) ∧ Below w.heap.size w W :=
 Kc.open h hs id _ (fun _ W hB => ⟨rfl,hB⟩) (fun h1 => by rw [hv] at h1; cases h1) (fun h1 => by rw [hv] at h1; cases h1)
theorem Kc.open17 {w : World} {A : Nat → Prop} {s : SSd} {u : Value} {rows : List (List V)} (h : Nr.Arg w A s u rows) (hs : okD s = true) (id : Int) (hv : valS s = true) (ho : opnI id s.2.2 0 < 0) :
  Calls Try.prog 51 #[.agg (Nc.s s.1 s.2.1 u),.int .i64 id] w fun en W => en = .returned (.tuple #[.agg (Nc.s 0 0 (.slice none 0 0)),.int .i64 0,.int .i64 17]) ∧ Below w.heap.size w W :=
 Kc.open h hs id _ (fun h1 => by rw [hv] at h1; cases h1) (fun _ _ W hB => ⟨rfl,hB⟩) (fun _ L d M e1 e2 _ _ _ W out R _ _ _ => by rw [e2] at ho; omega)
theorem Kc.open0 {w : World} {A : Nat → Prop} {s : SSd} {u : Value} {rows : List (List V)} (h : Nr.Arg w A s u rows) (hs : okD s = true) (id : Int) (hv : valS s = true) {L M : List SDs} {d : SDs} (g1 : s.2.2 = L ++ d :: M) (g2 : opnI id s.2.2 0 = ((L.length : Nat) : Int)) :
  Calls Try.prog 51 #[.agg (Nc.s s.1 s.2.1 u),.int .i64 id] w fun en W => ∃ go cap R x,en = .returned (.tuple #[.agg (Nc.s s.1 s.2.1 (.slice (some ⟨go,0,none⟩) (R.length : Nat) cap)),.int .i64 (L.length : Int),.int .i64 0]) ∧ R.map Prod.fst = s.2.2 ∧ R[L.length]? = some (d,x) ∧
   Nest W w.heap.size (.slice (some ⟨go,0,none⟩) (R.length : Nat) cap) R ∧ Below w.heap.size w W :=
 Kc.open h hs id _ (fun h1 => by rw [hv] at h1; cases h1) (fun _ ho => by rw [g2] at ho; omega) (fun _ L' d' M' e1 e2 _ _ _ W out R hR hN hB => by
  have hll : L'.length = L.length := by rw [g2] at e2; omega
  have hRl : R.length = s.2.2.length := by rw [← hR,List.length_map]
  have hlt : L.length < R.length := by rw [hRl,g1]; simp
  obtain ⟨go,cap,rfl⟩ := Nu.out hN (by omega)
  obtain ⟨⟨d0,x⟩,hx⟩ : ∃ p,R[L.length]? = some p := ⟨_,List.getElem?_eq_getElem hlt⟩
  have h1 : (R.map Prod.fst)[L.length]? = some d0 := by rw [List.getElem?_map,hx]; rfl
  rw [hR,g1,List.getElem?_append_right (Nat.le_refl _),Nat.sub_self] at h1
  have hd0 : d0 = d := (Option.some.inj h1).symm
  subst hd0
  exact ⟨go,cap,R,x,by rw [hll],hR,hx,hN,hB⟩)
theorem Kc.pres {W : World} {B : Nat} {n v err : Int} {u : Value} {tmps : Array Value} (h6 : tmps[6]? = some (.pointer (some ⟨B,0,none⟩))) (h7 : tmps[7]? = some (.int .i64 err)) (hb : HB W B tyS (Nc.s n v u)) :
  (results Try.f28 tmps).run Try.prog W = .ok (.tuple #[.agg (Nc.s n v u),.int .i64 err]) W := by
 have c0 := hb.cell 0
 have c1 := hb.cell 1
 have c2 := hb.cell 2
 simp [results,Try.f28,go_sem,h6,h7,c0,c1,c2]
theorem Kc.grow {W2 : World} {n0 go cap k : Nat} {R : List (SDs × Value)} {d : SDs} {va : Option Addr} {vc : Nat} (hN : Nest W2 n0 (.slice (some ⟨go,0,none⟩) (R.length : Nat) cap) R) (hk : R[k]? = some (d,.slice va ((ups d).length : Nat) vc)) (e : Int) (hn0 : n0 ≤ W2.heap.size)
  {w2 : World} {g2 c2 : Nat} (hg : (W2.alloc (.cells #[.int .i64 e] tyM)).drew.grownBy w2 (Value.slice va ((ups d).length : Nat) vc).ownBlock) (hown2 : w2.ownsRow n0 tyM 1 (.slice (some ⟨g2,0,none⟩) ((ups d).length + 1) c2) ((ups d).length + 1) (Ns.ms (ups d) ++ [.int .i64 e]))
  (hat : (Value.slice va ((ups d).length : Nat) vc).ownBlock = some g2 ∨ g2 = W2.heap.size + 1) :
  w2.frozen? ⟨go,k * 11 + 10,none⟩ = false ∧ w2.cell? ⟨go,k * 11 + 10,none⟩ = some (.slice va ((ups d).length : Nat) vc) ∧
  Ev W2 (w2.setCell ⟨go,k * 11 + 10,none⟩ (.slice (some ⟨g2,0,none⟩) ((ups d).length + 1) c2)) (fun b => n0 ≤ b ∧ (b = go ∨ (Value.slice va ((ups d).length : Nat) vc).ownBlock = some b)) ∧
  Nest (w2.setCell ⟨go,k * 11 + 10,none⟩ (.slice (some ⟨g2,0,none⟩) ((ups d).length + 1) c2)) n0 (.slice (some ⟨go,0,none⟩) (R.length : Nat) cap) (R.set k (upcD d e,.slice (some ⟨g2,0,none⟩) ((ups d).length + 1) c2)) := by
 have hmem := List.mem_of_getElem? hk
 have hkl := (List.getElem?_eq_some_iff.1 hk).1
 have hown := hN.inn _ hmem
 have hev : Ev W2 w2 (fun b => (Value.slice va ((ups d).length : Nat) vc).ownBlock = some b) := ⟨hg.os,hg.tape,hg.output,Nat.le_trans (by simp) hg.size,fun q hq hne => (hg.block q (Nat.lt_of_lt_of_le hq (by simp)) (Ne.symm hne)).trans (heap_alloc_old W2 _ hq)⟩
 have h1 := Own.ev hN.own hev (fun g hgo hx => hN.ne _ hmem g hx hgo)
 have hgo := Own.lt hN.own (g := go) rfl
 have hup : (ups (upcD d e)).length = (ups d).length + 1 := by simp [upcD,ups]
 have hms : Ns.ms (ups (upcD d e)) = Ns.ms (ups d) ++ [.int .i64 e] := by simp [upcD,ups,Ns.ms]
 have hb := hev.size
 refine ⟨h1.frozenAt _,?_,⟨hev.os,hev.tape,hev.output,by simpa [World.setCell] using hev.size,fun q hq hne => ?_⟩,Np.put hN hk (fun _ => rfl) (by rw [hup,hms]; exact hown2) hev (fun b hb2 => ?_)⟩
 ·rw [h1.cellAt (k * 11 + 10) (by omega)]
  exact flat_get (f := Ns.p) (k := 11) (fun _ => rfl) R k 10 _ hk (by omega)
 ·have n1 : q ≠ go := fun e2 => hne ⟨by omega,.inl e2⟩
  have n2 : ¬ (Value.slice va ((ups d).length : Nat) vc).ownBlock = some q := fun e2 => hne ⟨(Own.lt hown e2).1,.inr e2⟩
  exact (Below.heap_setCell w2 ⟨go,k * 11 + 10,none⟩ _ q n1).trans (hev.block q hq n2)
 ·have : g2 = b := by simpa [Value.ownBlock] using hb2
  subst this
  rcases hat with h | h
  ·exact .inl h
  ·exact .inr (by omega)
set_option maxRecDepth 100000 in
set_option maxHeartbeats 4000000 in
theorem Kc.post {w : World} {A : Nat → Prop} {s : SSd} {u : Value} {rows : List (List V)} (h : Nr.Arg w A s u rows) (hs : okD s = true) (id e : Int) (Q : Ending → World → Prop)
  (q : ∀ W n v out R err,chgS s id (pstF e) = ((n,v,R.map Prod.fst),err) → Nest W w.heap.size out R → Below w.heap.size w W → Q (.returned (.tuple #[.agg (Nc.s n v out),.int .i64 err])) W) :
  Calls Try.prog 28 #[.agg (Nc.s s.1 s.2.1 u),.int .i64 id,.int .i64 e] w Q := by
 have hu1t := Try.underlying26
 have hu2t := Try.underlying24
 have hu3t := Try.underlying53
 have hu4t := Try.underlying22
 obtain ⟨W0,hW0⟩ : ∃ W0,W0 = (w.alloc (.cells (Nc.s s.1 s.2.1 u) tyS)).alloc (.cells #[.int .i64 0,.int .i64 0,.slice none 0 0] tyS) := ⟨_,rfl⟩
 have hB0 : Below w.heap.size w W0 := by rw [hW0]; exact ((Below.refl _ w).alloc (Nat.le_refl _) _).alloc (by simp) _
 have hsz0 : W0.heap.size = w.heap.size + 2 := by rw [hW0]; simp
 have b2 : HB W0 (w.heap.size + 1) tyS #[.int .i64 0,.int .i64 0,.slice none 0 0] := by
  have := HB.new (w.alloc (.cells (Nc.s s.1 s.2.1 u) tyS)) tyS #[.int .i64 0,.int .i64 0,.slice none 0 0]
  rw [hW0]; rwa [World.size_alloc] at this
 have h0 := h.below hB0
 obtain ⟨ua,uc,rfl⟩ := h.shape
 have fail : ∀ {W1 : World} (c : Array Value) (err : Int),chgS s id (pstF e) = (zSs,err) → Below W0.heap.size W0 W1 → HB (W1.alloc (.cells c tyS)) (w.heap.size + 1) tyS #[.int .i64 0,.int .i64 0,.slice none 0 0] ∧
   Q (.returned (.tuple #[.agg (Nc.s 0 0 (.slice none 0 0)),.int .i64 err])) ((((W1.alloc (.cells c tyS)).setCell ⟨w.heap.size + 1,0,none⟩ (.int .i64 0)).setCell ⟨w.heap.size + 1,1,none⟩ (.int .i64 0)).setCell ⟨w.heap.size + 1,2,none⟩ (.slice none 0 0)) := fun {W1} c err hc hB => by
  have hB1 := (hB0.trans (hB.mono hB0.size)).alloc (by have := hB.size; omega) (.cells c tyS)
  exact ⟨(b2.below hB b2.lt).alloc _,q _ 0 0 _ [] err hc Nest.nil (hB1.trans (Nc.below3 (by omega) _ _ _))⟩
 cases hv : valS s
 ·have hop := Kc.open74 h0 hs id hv
  have fl := fun {W1 : World} c => fail (W1 := W1) c 74 (chg_74 hv)
  clear fail q hv
  subst hW0
  go_enter Try.func28,Try.ntmps28
  go_wp2_with (go_at_call 51; refine hop.mono ?_; clear hop; rintro en W1 ⟨rfl,hB1⟩; obtain ⟨o2,hq⟩ := fl #[.int .i64 0,.int .i64 0,.slice none 0 0] hB1; have f0 := o2.frozen 0; have f1 := o2.frozen 1; have f2 := o2.frozen 2; have c0 := o2.cell 0; have c1 := o2.cell 1; have c2 := o2.cell 2)
  exact ⟨rfl,_,Kc.pres rfl rfl (Nc.store3 o2 _ _ _),hq⟩
 ·by_cases ho : opnI id s.2.2 0 < 0
  ·have hop := Kc.open17 h0 hs id hv ho
   have fl := fun {W1 : World} c => fail (W1 := W1) c 17 (chg_17 hv ho)
   clear fail q hv ho
   subst hW0
   go_enter Try.func28,Try.ntmps28
   go_wp2_with (go_at_call 51; refine hop.mono ?_; clear hop; rintro en W1 ⟨rfl,hB1⟩; obtain ⟨o2,hq⟩ := fl #[.int .i64 0,.int .i64 0,.slice none 0 0] hB1; have f0 := o2.frozen 0; have f1 := o2.frozen 1; have f2 := o2.frozen 2; have c0 := o2.cell 0; have c1 := o2.cell 1; have c2 := o2.cell 2)
   exact ⟨rfl,_,Kc.pres rfl rfl (Nc.store3 o2 _ _ _),hq⟩
  ·obtain ⟨L,d,M,e1,e2,e3,e4,vd,_⟩ := chg_cases hv (decide_eq_false ho)
   have hop := Kc.open0 h0 hs id hv e1 e2
   have hce := chg_eq (f := pstF e) hv e1 e2
   have hup16 : (ups d).length ≤ 16 := by
    simp only [vdiS,upB,Bool.and_eq_true,decide_eq_true_eq] at vd
    exact vd.2.2.1.1
   have hel : L.length < s.2.2.length := by rw [e1]; simp
   by_cases he : e ≤ 0
   ·have e9 : pstF e d = ([],1) := by unfold pstF; rw [decide_eq_true he,cond_true]
    rw [e9] at hce
    have fl := fun {W1 : World} c => fail (W1 := W1) c 1 hce
    clear fail q hv ho e1 e2 e3 e4 vd hce e9 hel hup16
    subst hW0
    go_enter Try.func28,Try.ntmps28
    go_wp2_with (go_at_call 51; refine hop.mono ?_; clear hop; rintro en W1 ⟨go,cap,R,x,rfl,hR,hx,hN,hB1⟩; obtain ⟨o2,hq⟩ := fl (Nc.s s.1 s.2.1 (.slice (some ⟨go,0,none⟩) (R.length : Nat) cap)) hB1; have f0 := o2.frozen 0; have f1 := o2.frozen 1; have f2 := o2.frozen 2; have c0 := o2.cell 0; have c1 := o2.cell 1; have c2 := o2.cell 2)
    exact ⟨rfl,_,Kc.pres rfl rfl (Nc.store3 o2 _ _ _),hq⟩
   ·have up : ∀ {W1 : World} {go cap : Nat} {R : List (SDs × Value)} {x : Value} {c : Array Value},Nest W1 W0.heap.size (.slice (some ⟨go,0,none⟩) (R.length : Nat) cap) R → R[L.length]? = some (d,x) → (∃ va vc,x = .slice va ((ups d).length : Nat) vc) ∧ (W1.alloc (.cells c tyS)).cell? ⟨go,L.length * 11 + 10,none⟩ = some x ∧ L.length < R.length := fun {W1 go cap R x c} hN hx => by
     have hkl := (List.getElem?_eq_some_iff.1 hx).1
     refine ⟨?_,?_,hkl⟩
     ·rcases (hN.inn _ (List.mem_of_getElem? hx)).2 with ⟨h1,h0⟩ | ⟨g,c,cur,h1,_⟩
      ·have h0 : (ups d).length = 0 := h0
       exact ⟨none,0,by rw [h0]; exact h1⟩
      ·exact ⟨_,_,h1⟩
     ·have h1 := flat_get (f := Ns.p) (k := 11) (fun _ => rfl) R L.length 10 _ hx (by omega)
      rw [((Below.refl W1.heap.size W1).alloc (Nat.le_refl _) (.cells c tyS)).cell (p := ⟨go,L.length * 11 + 10,none⟩) (Own.lt hN.own rfl).2,hN.own.cellAt (L.length * 11 + 10) (by omega)]
      exact h1
    have hk0 : (0 : Int) ≤ ((L.length : Nat) : Int) := by omega
    by_cases h16 : (ups d).length = 16
    ·have e9 : pstF e d = ([],65) := by unfold pstF; rw [decide_eq_false he,cond_false,decide_eq_true (show (ups d).length ≥ 16 by omega),cond_true]
     rw [e9] at hce
     have fl := fun {W1 : World} c => fail (W1 := W1) c 65 hce
     have h16' : ((ups d).length : Int) = 16 := by omega
     clear fail q hv ho e1 e2 e3 e4 vd hce e9 hel hup16
     subst hW0
     go_enter Try.func28,Try.ntmps28
     go_wp2_with (go_at_call 51; refine hop.mono ?_; clear hop; rintro en W1 ⟨go,cap,R,x,rfl,hR,hx,hN,hB1⟩; obtain ⟨o2,hq⟩ := fl (Nc.s s.1 s.2.1 (.slice (some ⟨go,0,none⟩) (R.length : Nat) cap)) hB1; obtain ⟨⟨va,vc,rfl⟩,hcx,hkl⟩ := up (c := Nc.s s.1 s.2.1 (.slice (some ⟨go,0,none⟩) (R.length : Nat) cap)) hN hx; have hk1 : ((L.length : Nat) : Int) < ((R.length : Nat) : Int) := (by omega); clear up hN hx hR; have f0 := o2.frozen 0; have f1 := o2.frozen 1; have f2 := o2.frozen 2; have c0 := o2.cell 0; have c1 := o2.cell 1; have c2 := o2.cell 2)
     exact ⟨rfl,_,Kc.pres rfl rfl (Nc.store3 o2 _ _ _),hq⟩
    ·have e9 : pstF e d = ([upcD d e],0) := by unfold pstF; rw [decide_eq_false he,cond_false,decide_eq_false (show ¬ (ups d).length ≥ 16 by omega),cond_false]; rfl
     rw [e9] at hce
     have hce : chgS s id (pstF e) = ((s.1,s.2.1,L ++ [upcD d e] ++ M),0) := hce
     have h16' : ¬ ((ups d).length : Int) ≥ 16 := by omega
     have hset : ∀ {R : List (SDs × Value)} (x' : Value),R.map Prod.fst = s.2.2 → (R.set L.length (upcD d e,x')).map Prod.fst = L ++ [upcD d e] ++ M := fun {R} x' hR => by
      rw [List.map_set,hR,e1]; simp
     have hQ : ∀ W out (R : List (SDs × Value)) (x' : Value),R.map Prod.fst = s.2.2 → Nest W w.heap.size out (R.set L.length (upcD d e,x')) → Below w.heap.size w W → Q (.returned (.tuple #[.agg (Nc.s s.1 s.2.1 out),.int .i64 0])) W := fun W out R x' hR hN hB => q W _ _ out _ 0 (by rw [hset x' hR]; exact hce) hN hB
     clear fail q hv ho e1 e2 e3 e4 vd hce e9 hel hset
     subst hW0
     go_enter Try.func28,Try.ntmps28
     go_upto_region 8 with (go_at_call 51; refine hop.mono ?_; clear hop; rintro en W1 ⟨go,cap,R,x,rfl,hR,hx,hN,hB1⟩; obtain ⟨⟨va,vc,rfl⟩,hcx,hkl⟩ := up (c := Nc.s s.1 s.2.1 (.slice (some ⟨go,0,none⟩) (R.length : Nat) cap)) hN hx; have hk1 : ((L.length : Nat) : Int) < ((R.length : Nat) : Int) := (by omega); clear up)
     have hs1 := hB1.size
     rw [hsz0] at hN hs1
     have hal : Below W1.heap.size W1 (W1.alloc (.cells (Nc.s s.1 s.2.1 (.slice (some ⟨go,0,none⟩) (R.length : Nat) cap)) tyS)) := (Below.refl _ W1).alloc (Nat.le_refl _) _
     have bX := HB.new W1 tyS (Nc.s s.1 s.2.1 (.slice (some ⟨go,0,none⟩) (R.length : Nat) cap))
     have bR := (b2.below hB1 b2.lt).alloc (.cells (Nc.s s.1 s.2.1 (.slice (some ⟨go,0,none⟩) (R.length : Nat) cap)) tyS)
     have hN2 := hN.below hal
     have hB2 : Below w.heap.size w (W1.alloc (.cells (Nc.s s.1 s.2.1 (.slice (some ⟨go,0,none⟩) (R.length : Nat) cap)) tyS)) := (hB0.trans (hB1.mono hB0.size)).trans (hal.mono (by omega))
     have hXg : ∀ b,(b = go ∨ (Value.slice va ((ups d).length : Nat) vc).ownBlock = some b) → b < W1.heap.size := fun b hb => by
      rcases hb with rfl | hb
      ·exact (Own.lt hN.own rfl).2
      ·exact (Own.lt (hN.inn _ (List.mem_of_getElem? hx)) hb).2
     have xc2 := bX.cell 2
     clear hB1 hal hN hB0 b2
     generalize W1.alloc (.cells #[.int .i64 s.1,.int .i64 s.2.1,.slice (some ⟨go,0,none⟩) (R.length : Nat) cap] 26) = W2 at *
     generalize W1.heap.size = X at *
     have hsz2 : w.heap.size + 2 ≤ W2.heap.size := Nat.le_trans hs1 (Nat.le_of_lt bX.lt)
     have hown : W2.ownsRow (w.heap.size + 2) tyM 1 (.slice va ((ups d).length : Nat) vc) (ups d).length (Ns.ms (ups d)) := hN2.inn _ (List.mem_of_getElem? hx)
     have hca : ∀ o : Obj,(W2.alloc o).cell? ⟨go,L.length * 11 + 10,none⟩ = some (.slice va ((ups d).length : Nat) vc) := fun o => (((Below.refl W2.heap.size W2).alloc (Nat.le_refl _) o).cell (p := ⟨go,L.length * 11 + 10,none⟩) (Own.lt hN2.own rfl).2).trans hcx
     have hcb : ∀ o : Obj,(W2.alloc o).cell? ⟨X,2,none⟩ = some (.slice (some ⟨go,0,none⟩) (R.length : Nat) cap) := fun o => (((Below.refl W2.heap.size W2).alloc (Nat.le_refl _) o).cell (p := ⟨X,2,none⟩) bX.lt).trans xc2
     have fin : ∀ {w2 : World} {g2 c2 : Nat},(W2.alloc (.cells #[.int .i64 e] tyM)).drew.grownBy w2 (Value.slice va ((ups d).length : Nat) vc).ownBlock → w2.ownsRow (w.heap.size + 2) tyM 1 (.slice (some ⟨g2,0,none⟩) ((ups d).length + 1) c2) ((ups d).length + 1) (Ns.ms (ups d) ++ [.int .i64 e]) →
       ((Value.slice va ((ups d).length : Nat) vc).ownBlock = some g2 ∨ g2 = W2.heap.size + 1) → w2.frozen? ⟨go,L.length * 11 + 10,none⟩ = false ∧ w2.cell? ⟨go,L.length * 11 + 10,none⟩ = some (.slice va ((ups d).length : Nat) vc) ∧ w2.cell? ⟨X,2,none⟩ = some (.slice (some ⟨go,0,none⟩) (R.length : Nat) cap) ∧
        HB (w2.setCell ⟨go,L.length * 11 + 10,none⟩ (.slice (some ⟨g2,0,none⟩) ((ups d).length + 1) c2)) X tyS (Nc.s s.1 s.2.1 (.slice (some ⟨go,0,none⟩) (R.length : Nat) cap)) ∧
        HB (w2.setCell ⟨go,L.length * 11 + 10,none⟩ (.slice (some ⟨g2,0,none⟩) ((ups d).length + 1) c2)) (w.heap.size + 1) tyS #[.int .i64 0,.int .i64 0,.slice none 0 0] ∧
        Q (.returned (.tuple #[.agg (Nc.s s.1 s.2.1 (.slice (some ⟨go,0,none⟩) (R.length : Nat) cap)),.int .i64 0])) ((((w2.setCell ⟨go,L.length * 11 + 10,none⟩ (.slice (some ⟨g2,0,none⟩) ((ups d).length + 1) c2)).setCell ⟨w.heap.size + 1,0,none⟩ (.int .i64 s.1)).setCell ⟨w.heap.size + 1,1,none⟩ (.int .i64 s.2.1)).setCell ⟨w.heap.size + 1,2,none⟩ (.slice (some ⟨go,0,none⟩) (R.length : Nat) cap)) := fun {w2 g2 c2} hg ho hat => by
      obtain ⟨g1,g2',g3,g4⟩ := Kc.grow hN2 hx e hsz2 hg ho hat
      have bX3 := bX.ev g3 (fun h => by have := hXg _ h.2; omega)
      have bX2 : HB w2 X tyS (Nc.s s.1 s.2.1 (.slice (some ⟨go,0,none⟩) (R.length : Nat) cap)) := by
       have hne : X ≠ go := fun e2 => by have := hXg go (.inl rfl); omega
       have := (Below.heap_setCell w2 ⟨go,L.length * 11 + 10,none⟩ (.slice (some ⟨g2,0,none⟩) ((ups d).length + 1) c2) X hne).symm.trans bX3
       exact this
      have bR3 := bR.ev g3 (fun h => by omega)
      exact ⟨g1,g2',bX2.cell 2,bX3,bR3,hQ _ _ R _ hR (Nest.mono (g4.ev (Nc.ev3 _ _ _) (fun b h1 _ e2 => by omega)) (by omega)) ((hB2.trans (ev_below_n g3 (fun b hb => by omega) hB2.size)).trans (Nc.below3 (by omega) _ _ _))⟩
     obtain ⟨i0,hi0,hz0,hz1,hz2⟩ := info_parts Nq.infoI
     clear hXg hB2 bR hQ hs1 hx hR
     go_region_law ((refine step_append_lies _ (by rfl) _ _ _ (by rfl) (w.heap.size + 2) 3 i0 _ 1 8 hu4t hi0 hz0 hz1 hz2 rfl (by omega) (.slice va ((ups d).length : Nat) vc) _ (Ns.ms (ups d)) (by rfl) ((hown.alloc _).drew) ⟨W2.heap.size,0,none⟩ 1 1 [.int .i64 e] (by rfl) (by simp) (World.news_of_block (heap_alloc_new _ _)) (by simp [Value.oneCell']) (by omega) (by simp only [maxLen]; omega) (by omega) (by simp; omega) (W2.heap.size + 1) (by simp) ?_; intro g2 c2 w2 hown2 hgrow hat hlt; obtain ⟨t1,t2,t3,t4,t5,t6⟩ := fin hgrow hown2 hat))
     all_goals (have x0 := t4.cell 0; have x1 := t4.cell 1; have x2 := t4.cell 2; have f0 := t5.frozen 0; have f1 := t5.frozen 1; have f2 := t5.frozen 2; have y0 := t5.cell 0; have y1 := t5.cell 1; have y2 := t5.cell 2)
     all_goals go_wp2
     all_goals exact ⟨rfl,_,Kc.pres rfl rfl (Nc.store3 t5 _ _ _),t6⟩
end Go.Proofs
namespace Go.Proofs
open Go.RowKit Go.Shelf Go.AL
attribute [local go_sem] Oper.semAt_some
theorem Kc.ps_set {p q : SDs × Value} {j : Nat} {y : Value} (hj : j < 11) (hq : Ns.p q = (Ns.p p).set j y) : ∀ (R : List (SDs × Value)) (k : Nat),R[k]? = some p → (Ns.ps R).set (k * 11 + j) y = Ns.ps (R.set k q)
 | [],k,h => by simp at h
 | z :: R,0,h => by
  simp at h
  subst h
  show (Ns.p z ++ Ns.ps R).set (0 * 11 + j) y = Ns.p q ++ Ns.ps R
  rw [Nat.zero_mul,Nat.zero_add,List.set_append_left _ _ (show j < (Ns.p z).length from hj),hq]
 | z :: R,k + 1,h => by
  show (Ns.p z ++ Ns.ps R).set ((k + 1) * 11 + j) y = Ns.p z ++ Ns.ps (R.set k q)
  rw [List.set_append_right _ _ (show (Ns.p z).length ≤ (k + 1) * 11 + j by show 11 ≤ _; omega),← Kc.ps_set hj hq R k (by simpa using h)]
  congr 2
  show (k + 1) * 11 + j - 11 = _
  omega
theorem Kc.cell1 {W : World} {n0 go cap k j : Nat} {R : List (SDs × Value)} {p q : SDs × Value} {y : Value} (hN : Nest W n0 (.slice (some ⟨go,0,none⟩) (R.length : Nat) cap) R) (hk : R[k]? = some p) (hj : j < 11) (hq : Ns.p q = (Ns.p p).set j y)
  (hin : (q.2 = p.2 ∧ ups q.1 = ups p.1) ∨ (q.2 = .slice none 0 0 ∧ ups q.1 = [])) : Nest (W.setCell ⟨go,k * 11 + j,none⟩ y) n0 (.slice (some ⟨go,0,none⟩) (R.length : Nat) cap) (R.set k q) := by
 have hmem := List.mem_of_getElem? hk
 have ev : Ev W (W.setCell ⟨go,k * 11 + j,none⟩ y) (fun b => b = go) := ⟨rfl,rfl,rfl,by simp [World.setCell],fun a ha hne => Below.heap_setCell W ⟨go,k * 11 + j,none⟩ y a hne⟩
 have hlen : (R.set k q).length = R.length := by simp
 have inq : (W.setCell ⟨go,k * 11 + j,none⟩ y).ownsRow n0 tyM 1 q.2 (ups q.1).length (Ns.ms (ups q.1)) := by
  rcases hin with ⟨h1,h2⟩ | ⟨h1,h2⟩
  ·rw [h1,h2]
   exact Own.ev (hN.inn p hmem) ev (fun g hg e => hN.ne p hmem g hg (by rw [e]; rfl))
  ·rw [h1,h2]; exact World.ownsRow_nil _ _ _ _
 have hown : ∀ g,q.2.ownBlock = some g → p.2.ownBlock = some g := fun g hg => by
  rcases hin with ⟨h1,_⟩ | ⟨h1,_⟩
  ·rw [← h1]; exact hg
  ·rw [h1] at hg; cases hg
 have hget : ∀ (i : Nat) (r : SDs × Value),(R.set k q)[i]? = some r → (i = k ∧ r = q) ∨ (i ≠ k ∧ R[i]? = some r) := fun i r hi => by
  by_cases e : i = k
  ·subst e
   rw [List.getElem?_set_self (List.getElem?_eq_some_iff.1 hk).1] at hi
   exact .inl ⟨rfl,(Option.some.inj hi).symm⟩
  ·rw [List.getElem?_set_ne (Ne.symm e)] at hi
   exact .inr ⟨e,hi⟩
 have hdis : ∀ (i j : Nat) (p q : SDs × Value),R[i]? = some p → R[j]? = some q → i ≠ j → ∀ g,p.2.ownBlock = some g → q.2.ownBlock ≠ some g := fun i j p q hi hj hne g hp hq => by
  have hd := List.pairwise_iff_getElem.1 hN.dis
  obtain ⟨i1,rfl⟩ := List.getElem?_eq_some_iff.1 hi
  obtain ⟨j1,rfl⟩ := List.getElem?_eq_some_iff.1 hj
  rcases Nat.lt_or_gt_of_ne hne with hlt | hlt
  ·exact hd i j i1 j1 hlt g hp hq
  ·exact hd j i j1 i1 hlt g hq hp
 refine ⟨?_,fun r hr => ?_,fun r hr g hg e => ?_,?_⟩
 ·rw [hlen,← Kc.ps_set hj hq R k hk]
  exact (hN.own.stored (k * 11 + j) y).1
 ·obtain ⟨i,hi⟩ := List.getElem?_of_mem hr
  rcases hget i r hi with ⟨_,rfl⟩ | ⟨_,h1⟩
  ·exact inq
  ·have hm := List.mem_of_getElem? h1
   exact Own.ev (hN.inn r hm) ev (fun g hg e => hN.ne r hm g hg (by rw [e]; rfl))
 ·obtain ⟨i,hi⟩ := List.getElem?_of_mem hr
  rcases hget i r hi with ⟨_,rfl⟩ | ⟨_,h1⟩
  ·exact hN.ne p hmem g (hown g hg) e
  ·exact hN.ne r (List.mem_of_getElem? h1) g hg e
 ·refine List.pairwise_iff_getElem.2 fun i j hi hj hlt g h1 h2 => ?_
  have gi := hget i _ (List.getElem?_eq_getElem hi)
  have gj := hget j _ (List.getElem?_eq_getElem hj)
  rcases gi with ⟨e1,e2⟩ | ⟨e1,e2⟩ <;> rcases gj with ⟨e3,e4⟩ | ⟨e3,e4⟩
  ·omega
  ·rw [e2] at h1
   exact hdis k j p _ hk e4 (by omega) g (hown g h1) h2
  ·rw [e4] at h2
   exact hdis i k _ p e2 hk (by omega) g h1 (hown g h2)
  ·exact hdis i j _ _ e2 e4 (by omega) g h1 h2
def remD (d : SDs) : SDs := (dId d,dW d,dPer d,dBud d,dBlk d,false,true,dDl d,dLft d,dPas d,[])
theorem Kc.rt {W : World} {n0 go cap k : Nat} {R : List (SDs × Value)} {d : SDs} {x : Value} (hN : Nest W n0 (.slice (some ⟨go,0,none⟩) (R.length : Nat) cap) R) (hk : R[k]? = some (d,x)) :
  Nest (((W.setCell ⟨go,k * 11 + 6,none⟩ (.bool true)).setCell ⟨go,k * 11 + 5,none⟩ (.bool false)).setCell ⟨go,k * 11 + 10,none⟩ (.slice none 0 0)) n0 (.slice (some ⟨go,0,none⟩) (R.length : Nat) cap) (R.set k (remD d,.slice none 0 0)) := by
 have hkl := (List.getElem?_eq_some_iff.1 hk).1
 have h1 := Kc.cell1 (q := ((dId d,dW d,dPer d,dBud d,dBlk d,dDis d,true,dDl d,dLft d,dPas d,ups d),x)) (y := .bool true) hN hk (j := 6) (by omega) rfl (.inl ⟨rfl,rfl⟩)
 have k1 : (R.set k ((dId d,dW d,dPer d,dBud d,dBlk d,dDis d,true,dDl d,dLft d,dPas d,ups d),x))[k]? = some ((dId d,dW d,dPer d,dBud d,dBlk d,dDis d,true,dDl d,dLft d,dPas d,ups d),x) := List.getElem?_set_self hkl
 rw [show R.length = (R.set k ((dId d,dW d,dPer d,dBud d,dBlk d,dDis d,true,dDl d,dLft d,dPas d,ups d),x)).length by simp] at h1
 have h2 := Kc.cell1 (q := ((dId d,dW d,dPer d,dBud d,dBlk d,false,true,dDl d,dLft d,dPas d,ups d),x)) (y := .bool false) h1 k1 (j := 5) (by omega) rfl (.inl ⟨rfl,rfl⟩)
 rw [List.set_set] at h2
 have k2 : (R.set k ((dId d,dW d,dPer d,dBud d,dBlk d,false,true,dDl d,dLft d,dPas d,ups d),x))[k]? = some ((dId d,dW d,dPer d,dBud d,dBlk d,false,true,dDl d,dLft d,dPas d,ups d),x) := List.getElem?_set_self hkl
 rw [show (R.set k ((dId d,dW d,dPer d,dBud d,dBlk d,dDis d,true,dDl d,dLft d,dPas d,ups d),x)).length = (R.set k ((dId d,dW d,dPer d,dBud d,dBlk d,false,true,dDl d,dLft d,dPas d,ups d),x)).length by simp] at h2
 have h3 := Kc.cell1 (q := (remD d,.slice none 0 0)) (y := .slice none 0 0) h2 k2 (j := 10) (by omega) rfl (.inr ⟨rfl,rfl⟩)
 rw [List.set_set,List.length_set] at h3
 exact h3
theorem Kc.setCells {B : Nat} {t : TypeId} : ∀ (vs : List Value) (W : World) (o : Nat) (cs : Array Value),HB W B t cs → ∃ cs',HB (W.setCells B o vs) B t cs' ∧ cs'.size = cs.size ∧ (∀ j,cs'[j]? = if o ≤ j ∧ j < o + vs.length ∧ j < cs.size then vs[j - o]? else cs[j]?) ∧ Ev W (W.setCells B o vs) (fun b => b = B)
 | [],W,o,cs,h => ⟨cs,h,rfl,fun j => by rw [if_neg (by simp; omega)],⟨rfl,rfl,rfl,Nat.le_refl _,fun _ _ _ => rfl⟩⟩
 | v :: vs,W,o,cs,h => by
  obtain ⟨cs',h1,h2,h3,h4⟩ := Kc.setCells vs (W.setCell ⟨B,o,none⟩ v) (o + 1) _ (h.set o v)
  refine ⟨cs',h1,by simpa using h2,fun j => ?_,⟨h4.os,h4.tape,h4.output,Nat.le_trans (by simp [World.setCell]) h4.size,fun q hq hne => (h4.block q (by simpa [World.setCell] using hq) hne).trans (Below.heap_setCell W ⟨B,o,none⟩ v q hne)⟩⟩
  rw [h3 j]
  simp only [Array.size_setIfInBounds,List.length_cons]
  by_cases hj : j = o
  ·subst hj
   rw [if_neg (by omega),Array.getElem?_setIfInBounds,if_pos rfl]
   by_cases hs : j < cs.size
   ·rw [if_pos hs,if_pos ⟨Nat.le_refl _,by omega,hs⟩,Nat.sub_self]; rfl
   ·rw [if_neg hs,if_neg (by omega),Array.getElem?_eq_none (by omega)]
  ·rw [Array.getElem?_setIfInBounds,if_neg (Ne.symm hj)]
   by_cases h5 : o + 1 ≤ j ∧ j < o + 1 + vs.length ∧ j < cs.size
   ·rw [if_pos h5,if_pos (by omega),show j - o = (j - (o + 1)) + 1 by omega]; rfl
   ·rw [if_neg h5,if_neg (by omega)]
theorem Kq.stepApp {P : Program} {w : World} {ops : Array Oper} {o : Oper} {a : Act} {K : Act → World → Prop} {Q : Exit → Act → World → Prop} {E : Prop} (hgd : o.guard = none) (s x : Operand) (t : TypeId)
  (ho : o.op = .call { callee := .builtin .append,args := #[s,x],argTypes := #[t,t] }) (hty : o.type = t) {v y : Value} (hs : a.eval s = v) (hx : a.eval x = y) {R : Value → World → Prop}
  (hr : ∃ v' w',(Builtin.append_ #[t,t] t #[v,y]).run P w = .ok v' w' ∧ R v' w') (h : ∀ v' w',R v' w' → K (a.put o.dst v') w') : if Region.wanted o (yielded ops a.tmps) = true then Oper.wp P o a w K Q else E := by
 have hw : Region.wanted o (yielded ops a.tmps) = true := by simp [Region.wanted,hgd]
 rw [if_pos hw]
 obtain ⟨v',w',h1,h2⟩ := hr
 unfold Oper.wp execOp
 simp only [ho,hty,resolve,invoke,builtin,Sem.run_bind,Sem.run_pure,Result.andThen_ok,List.map_toArray,List.map_cons,List.map_nil,hs,hx,h1]
 exact h v' w' h2
theorem Kc.cut {W : World} {n0 go cap k : Nat} {R : List (SDs × Value)} {p : SDs × Value} (hN : Nest W n0 (.slice (some ⟨go,0,none⟩) (R.length : Nat) cap) R) (hk : R[k]? = some p) (hR : R.length ≤ 1000) {a : Addr} {m c : Nat} (hm : m = R.length - k - 1) (ha : m = 0 ∨ a = ⟨go,(k + 1) * 11,none⟩) :
  ∃ w',(Builtin.append_ #[24,24] 24 #[.slice (some ⟨go,0,none⟩) k cap,.slice (some a) m c]).run Try.prog W = .ok (.slice (some ⟨go,0,none⟩) (k + m) cap) w' ∧
   Nest w' n0 (.slice (some ⟨go,0,none⟩) (k + m) cap) (R.take k ++ R.drop (k + 1)) ∧ Ev W w' (fun b => b = go) := by
 obtain ⟨i0,hi0,hz0,hz1,hz2⟩ := info_parts Kc.infoD
 have hu := Try.underlying24
 have hkl := (List.getElem?_eq_some_iff.1 hk).1
 have h2 := hN.own.2
 rcases h2 with ⟨e,_⟩ | ⟨g,cap',cur,e1,e2,e3,e4,e5,e6,e7⟩
 ·cases e
 simp only [Value.slice.injEq,Option.some.injEq,Addr.mk.injEq,and_true,true_and] at e1
 obtain ⟨rfl,rfl⟩ := e1
 have hHB : HB W go tyP cur := e3
 have hl2 : (R.drop (k + 1)).length = m := by rw [List.length_drop]; omega
 have hnl : (Ns.ps (R.drop (k + 1))).length = m * 11 := by rw [← hl2]; exact flat_len (f := Ns.p) (k := 11) (fun _ => rfl) _
 have htl : (Ns.ps (R.take k)).length = k * 11 := by
  have := flat_len (f := Ns.p) (k := 11) (fun _ => rfl) (R.take k)
  rw [List.length_take,Nat.min_eq_left (by omega)] at this
  exact this
 have hpl : (Ns.ps R).length = R.length * 11 := flat_len (f := Ns.p) (k := 11) (fun _ => rfl) R
 have hdrop : (Ns.ps R).drop ((k + 1) * 11) = Ns.ps (R.drop (k + 1)) := flat_drop (f := Ns.p) (k := 11) (fun _ => rfl) R (k + 1)
 have htake : (Ns.ps R).take (k * 11) = Ns.ps (R.take k) := flat_take (f := Ns.p) (k := 11) (fun _ => rfl) R k
 have hcur : ∀ j,j < R.length * 11 → cur[j]? = (Ns.ps R)[j]? := fun j hj => by
  rw [← e7,List.getElem?_take,if_pos hj]; simp
 have hone := hN.one
 have hone2 : ∀ u ∈ Ns.ps (R.drop (k + 1)),u.oneCell' = true := fun u hu => hone u (by rw [← hdrop] at hu; exact List.mem_of_mem_drop hu)
 have hsub : R.drop (k + 1) ⊆ R := fun y hy => List.mem_of_mem_drop hy
 have hr := run_append_room_cells (P := Try.prog) W 24 24 tyP i0 hu hi0 go 0 k cap a m c (Ns.ps (R.drop (k + 1))) (by rw [hnl,hz1]) (fun j u hu => by
  have hj : j < m * 11 := by rw [← hnl]; exact (List.getElem?_eq_some_iff.1 hu).1
  rcases ha with h0 | rfl
  ·omega
  ·rw [Addr.add_mid,hHB.cell,hcur _ (by omega),← List.getElem?_drop,hdrop]; exact hu) hone2 (by omega) (fun j hj => by
  rw [hnl] at hj
  rw [hHB.cell,hz1,Nat.zero_add,hcur _ (by omega),List.getElem?_eq_getElem (by omega)]; rfl) (fun j hj => hHB.frozen _)
 rw [hz1,Nat.zero_add] at hr
 obtain ⟨cs',g1,g2,g3,g4⟩ := Kc.setCells (Ns.ps (R.drop (k + 1))) W (k * 11) cur hHB
 have hps : Ns.ps (R.take k ++ R.drop (k + 1)) = Ns.ps (R.take k) ++ Ns.ps (R.drop (k + 1)) := by unfold Ns.ps; rw [List.flatMap_append]
 have hrl : (R.take k ++ R.drop (k + 1)).length = k + m := by rw [List.length_append,hl2,List.length_take,Nat.min_eq_left (by omega)]
 have sub : ∀ q ∈ R.take k ++ R.drop (k + 1),q ∈ R := fun q hq => by
  rcases List.mem_append.1 hq with hq | hq
  ·exact List.mem_of_mem_take hq
  ·exact List.mem_of_mem_drop hq
 have hsl : (R.take k ++ R.drop (k + 1)).Sublist R := by
  have h1 : (R.drop (k + 1)).Sublist (R.drop k) := by
   rw [List.drop_eq_getElem_cons hkl]; exact List.sublist_cons_self _ _
  have := List.Sublist.append (List.Sublist.refl (R.take k)) h1
  rwa [List.take_append_drop] at this
 refine ⟨_,hr,⟨⟨by rw [hps,List.length_append,hnl,htl,hrl]; omega,.inr ⟨go,cap,cs',by rw [hrl],e2,g1,by rw [hrl]; omega,e5,by rw [g2]; exact e6,?_⟩⟩,fun q hq => Own.ev (hN.inn q (sub q hq)) g4 (fun b hb e => hN.ne q (sub q hq) b hb (by rw [e]; rfl)),fun q hq b hb e => hN.ne q (sub q hq) b hb (by rw [← e]; rfl),hN.dis.sublist hsl⟩,g4⟩
 rw [hrl,hps]
 apply List.ext_getElem?
 intro j
 rw [List.getElem?_take]
 by_cases hj : j < (k + m) * 11
 ·rw [if_pos hj,Array.getElem?_toList,g3 j,hnl]
  by_cases hj2 : k * 11 ≤ j
  ·rw [if_pos ⟨hj2,by omega,by rw [e6]; omega⟩,List.getElem?_append_right (by omega),htl]
  ·rw [if_neg (by omega),List.getElem?_append_left (by omega),← htake,List.getElem?_take,if_pos (by omega),hcur j (by omega)]
 ·rw [if_neg hj,List.getElem?_eq_none (by rw [List.length_append,htl,hnl]; omega)]
end Go.Proofs
namespace Go.Proofs
open Go.RowKit Go.Shelf Go.AL
attribute [local go_sem] Oper.semAt_some
theorem Kc.rres {W : World} {B : Nat} {n v err : Int} {u : Value} {tmps : Array Value} (h6 : tmps[4]? = some (.pointer (some ⟨B,0,none⟩))) (h7 : tmps[5]? = some (.int .i64 err)) (hb : HB W B tyS (Nc.s n v u)) :
  (results Try.f22 tmps).run Try.prog W = .ok (.tuple #[.agg (Nc.s n v u),.int .i64 err]) W := by
 have c0 := hb.cell 0
 have c1 := hb.cell 1
 have c2 := hb.cell 2
 simp [results,Try.f22,go_sem,h6,h7,c0,c1,c2]
theorem HB.some {W : World} {B : Nat} {t : TypeId} {cs : Array Value} (h : HB W B t cs) {j : Nat} (hj : j < cs.size) : ∃ y,W.cell? ⟨B,j,none⟩ = .some y := by
 rw [h.cell,Array.getElem?_eq_getElem hj]; exact ⟨_,rfl⟩
theorem Kc.blk {W : World} {n0 go cap k : Nat} {R : List (SDs × Value)} {p : SDs × Value} (hN : Nest W n0 (.slice (some ⟨go,0,none⟩) (R.length : Nat) cap) R) (hk : R[k]? = some p) : ∃ cur,HB W go tyP cur ∧ k * 11 + 11 ≤ cur.size := by
 have hkl := (List.getElem?_eq_some_iff.1 hk).1
 rcases hN.own.2 with ⟨e,_⟩ | ⟨g,cap',cur,e1,_,e3,e4,_,e6,_⟩
 ·cases e
 ·cases e1
  exact ⟨cur,e3,by rw [e6]; omega⟩
set_option maxRecDepth 100000 in
set_option maxHeartbeats 4000000 in
theorem Kc.rem {w : World} {A : Nat → Prop} {s : SSd} {u : Value} {rows : List (List V)} (h : Nr.Arg w A s u rows) (hs : okD s = true) (id : Int) (Q : Ending → World → Prop)
  (q : ∀ W n v out R err,chgS s id remF = ((n,v,R.map Prod.fst),err) → Nest W w.heap.size out R → Below w.heap.size w W → Q (.returned (.tuple #[.agg (Nc.s n v out),.int .i64 err])) W) :
  Calls Try.prog 22 #[.agg (Nc.s s.1 s.2.1 u),.int .i64 id] w Q := by
 have hu1t := Try.underlying26
 have hu2t := Try.underlying24
 have hu3t := Try.underlying53
 have hu4t := Try.underlying22
 obtain ⟨W0,hW0⟩ : ∃ W0,W0 = (w.alloc (.cells (Nc.s s.1 s.2.1 u) tyS)).alloc (.cells #[.int .i64 0,.int .i64 0,.slice none 0 0] tyS) := ⟨_,rfl⟩
 have hB0 : Below w.heap.size w W0 := by rw [hW0]; exact ((Below.refl _ w).alloc (Nat.le_refl _) _).alloc (by simp) _
 have hsz0 : W0.heap.size = w.heap.size + 2 := by rw [hW0]; simp
 have b2 : HB W0 (w.heap.size + 1) tyS #[.int .i64 0,.int .i64 0,.slice none 0 0] := by
  have := HB.new (w.alloc (.cells (Nc.s s.1 s.2.1 u) tyS)) tyS #[.int .i64 0,.int .i64 0,.slice none 0 0]
  rw [hW0]; rwa [World.size_alloc] at this
 have h0 := h.below hB0
 obtain ⟨ua,uc,rfl⟩ := h.shape
 have fail : ∀ {W1 : World} (c : Array Value) (err : Int),chgS s id (remF) = (zSs,err) → Below W0.heap.size W0 W1 → HB (W1.alloc (.cells c tyS)) (w.heap.size + 1) tyS #[.int .i64 0,.int .i64 0,.slice none 0 0] ∧
   Q (.returned (.tuple #[.agg (Nc.s 0 0 (.slice none 0 0)),.int .i64 err])) ((((W1.alloc (.cells c tyS)).setCell ⟨w.heap.size + 1,0,none⟩ (.int .i64 0)).setCell ⟨w.heap.size + 1,1,none⟩ (.int .i64 0)).setCell ⟨w.heap.size + 1,2,none⟩ (.slice none 0 0)) := fun {W1} c err hc hB => by
  have hB1 := (hB0.trans (hB.mono hB0.size)).alloc (by have := hB.size; omega) (.cells c tyS)
  exact ⟨(b2.below hB b2.lt).alloc _,q _ 0 0 _ [] err hc Nest.nil (hB1.trans (Nc.below3 (by omega) _ _ _))⟩
 cases hv : valS s
 ·have hop := Kc.open74 h0 hs id hv
  have fl := fun {W1 : World} c => fail (W1 := W1) c 74 (chg_74 hv)
  clear fail q hv
  subst hW0
  go_enter Try.func22,Try.ntmps22
  go_wp2_with (go_at_call 51; refine hop.mono ?_; clear hop; rintro en W1 ⟨rfl,hB1⟩; obtain ⟨o2,hq⟩ := fl #[.int .i64 0,.int .i64 0,.slice none 0 0] hB1; have f0 := o2.frozen 0; have f1 := o2.frozen 1; have f2 := o2.frozen 2; have c0 := o2.cell 0; have c1 := o2.cell 1; have c2 := o2.cell 2)
  exact ⟨rfl,_,Kc.rres rfl rfl (Nc.store3 o2 _ _ _),hq⟩
 ·by_cases ho : opnI id s.2.2 0 < 0
  ·have hop := Kc.open17 h0 hs id hv ho
   have fl := fun {W1 : World} c => fail (W1 := W1) c 17 (chg_17 hv ho)
   clear fail q hv ho
   subst hW0
   go_enter Try.func22,Try.ntmps22
   go_wp2_with (go_at_call 51; refine hop.mono ?_; clear hop; rintro en W1 ⟨rfl,hB1⟩; obtain ⟨o2,hq⟩ := fl #[.int .i64 0,.int .i64 0,.slice none 0 0] hB1; have f0 := o2.frozen 0; have f1 := o2.frozen 1; have f2 := o2.frozen 2; have c0 := o2.cell 0; have c1 := o2.cell 1; have c2 := o2.cell 2)
   exact ⟨rfl,_,Kc.rres rfl rfl (Nc.store3 o2 _ _ _),hq⟩
  ·obtain ⟨L,d,M,e1,e2,e3,e4,vd,_⟩ := chg_cases hv (decide_eq_false ho)
   have hop := Kc.open0 h0 hs id hv e1 e2
   have hce := chg_eq (f := remF) hv e1 e2
   have hl32 := ((valS_iff s).1 hv).len
   have hel : L.length < s.2.2.length := by rw [e1]; simp
   have hk0 : (0 : Int) ≤ ((L.length : Nat) : Int) := by omega
   have hws : ∀ {R : List (SDs × Value)} {x : Value} {W1 : World} {go cap : Nat} {c : Array Value},R.map Prod.fst = s.2.2 → Nest W1 W0.heap.size (.slice (some ⟨go,0,none⟩) (R.length : Nat) cap) R → R[L.length]? = some (d,x) →
     (W1.alloc (.cells c tyS)).cell? ⟨go,L.length * 11 + 1,none⟩ = some (.int .i64 (dW d)) ∧ L.length < R.length ∧ R.length ≤ cap ∧ R.length ≤ 32 := fun {R x W1 go cap c} hR hN hx => by
    have hkl := (List.getElem?_eq_some_iff.1 hx).1
    have h1 := flat_get (f := Ns.p) (k := 11) (fun _ => rfl) R L.length 1 _ hx (by omega)
    refine ⟨?_,hkl,?_,by have := congrArg List.length hR; rw [List.length_map] at this; omega⟩
    ·rw [((Below.refl W1.heap.size W1).alloc (Nat.le_refl _) (.cells c tyS)).cell (p := ⟨go,L.length * 11 + 1,none⟩) (Own.lt hN.own rfl).2,hN.own.cellAt (L.length * 11 + 1) (by omega)]
     exact h1
    ·rcases hN.own.2 with ⟨e,_⟩ | ⟨g,cap',cur,e1,_,_,e4,_⟩
     ·cases e
     ·cases e1; exact e4
   by_cases hw : dW d = 0
   ·have e9 : remF d = ([remD d],0) := by unfold remF; rw [decide_eq_true hw]; rfl
    rw [e9] at hce
    have hce : chgS s id remF = ((s.1,s.2.1,L ++ [remD d] ++ M),0) := hce
    have hQ : ∀ W out (R : List (SDs × Value)) (x' : Value),R.map Prod.fst = s.2.2 → Nest W w.heap.size out (R.set L.length (remD d,x')) → Below w.heap.size w W → Q (.returned (.tuple #[.agg (Nc.s s.1 s.2.1 out),.int .i64 0])) W := fun W out R x' hR hN hB => q W _ _ out _ 0 (by
     rw [show (R.set L.length (remD d,x')).map Prod.fst = L ++ [remD d] ++ M by rw [List.map_set,hR,e1]; simp]; exact hce) hN hB
    clear fail q hv ho e1 e2 e3 e4 vd hce e9
    subst hW0
    go_enter Try.func22,Try.ntmps22
    go_upto_region 8 with (go_at_call 51; refine hop.mono ?_; clear hop; rintro en W1 ⟨go,cap,R,x,rfl,hR,hx,hN,hB1⟩; obtain ⟨hcx,hkl,hcap,hR32⟩ := hws (c := Nc.s s.1 s.2.1 (.slice (some ⟨go,0,none⟩) (R.length : Nat) cap)) hR hN hx; have hk1 : ((L.length : Nat) : Int) < ((R.length : Nat) : Int) := (by omega); clear hws; rw [hw] at hcx)
    have hs1 := hB1.size
    rw [hsz0] at hN hs1
    have hal : Below W1.heap.size W1 (W1.alloc (.cells (Nc.s s.1 s.2.1 (.slice (some ⟨go,0,none⟩) (R.length : Nat) cap)) tyS)) := (Below.refl _ W1).alloc (Nat.le_refl _) _
    have bX := HB.new W1 tyS (Nc.s s.1 s.2.1 (.slice (some ⟨go,0,none⟩) (R.length : Nat) cap))
    have bR := (b2.below hB1 b2.lt).alloc (.cells (Nc.s s.1 s.2.1 (.slice (some ⟨go,0,none⟩) (R.length : Nat) cap)) tyS)
    have hN2 := hN.below hal
    have hB2 : Below w.heap.size w (W1.alloc (.cells (Nc.s s.1 s.2.1 (.slice (some ⟨go,0,none⟩) (R.length : Nat) cap)) tyS)) := (hB0.trans (hB1.mono hB0.size)).trans (hal.mono (by omega))
    have hXg : go < W1.heap.size := (Own.lt hN.own rfl).2
    have hgo2 : w.heap.size + 2 ≤ go := (Own.lt hN.own rfl).1
    clear hB1 hal hN hB0 b2
    generalize W1.alloc (.cells #[.int .i64 s.1,.int .i64 s.2.1,.slice (some ⟨go,0,none⟩) (R.length : Nat) cap] 26) = W2 at *
    generalize W1.heap.size = X at *
    obtain ⟨cur,hcur,hcs⟩ := Kc.blk hN2 hx
    obtain ⟨y6,p6⟩ := hcur.some (j := L.length * 11 + 6) (by omega)
    have g6 := hcur.frozen (L.length * 11 + 6)
    have h1 := hcur.set (L.length * 11 + 6) (.bool true)
    obtain ⟨y5,p5⟩ := h1.some (j := L.length * 11 + 5) (by simp; omega)
    have g5 := h1.frozen (L.length * 11 + 5)
    have h2 := h1.set (L.length * 11 + 5) (.bool false)
    obtain ⟨y10,p10⟩ := h2.some (j := L.length * 11 + 10) (by simp; omega)
    have g10 := h2.frozen (L.length * 11 + 10)
    have hN3 := Kc.rt hN2 hx
    have hXne : X ≠ go := by omega
    have hRne : w.heap.size + 1 ≠ go := by omega
    have bX3 := ((bX.other hXne (L.length * 11 + 6) (.bool true)).other hXne (L.length * 11 + 5) (.bool false)).other hXne (L.length * 11 + 10) (.slice none 0 0)
    have bR3 := ((bR.other hRne (L.length * 11 + 6) (.bool true)).other hRne (L.length * 11 + 5) (.bool false)).other hRne (L.length * 11 + 10) (.slice none 0 0)
    have hB3 := ((hB2.setCell (p := ⟨go,L.length * 11 + 6,none⟩) (by show w.heap.size ≤ go; omega) (.bool true)).setCell (p := ⟨go,L.length * 11 + 5,none⟩) (by show w.heap.size ≤ go; omega) (.bool false)).setCell (p := ⟨go,L.length * 11 + 10,none⟩) (by show w.heap.size ≤ go; omega) (.slice none 0 0)
    have hq := hQ _ _ R _ hR (Nest.mono (hN3.ev (Nc.ev3 (B := w.heap.size + 1) (.int .i64 s.1) (.int .i64 s.2.1) (.slice (some ⟨go,0,none⟩) (R.length : Nat) cap)) (fun b h1 _ e2 => by omega)) (show w.heap.size ≤ w.heap.size + 2 by omega)) (hB3.trans (Nc.below3 (by omega) _ _ _))
    have x0 := bX3.cell 0
    have x1 := bX3.cell 1
    have x2 := bX3.cell 2
    have f0 := bR3.frozen 0
    have f1 := bR3.frozen 1
    have f2 := bR3.frozen 2
    have w0 := bR3.cell 0
    have w1 := bR3.cell 1
    have w2 := bR3.cell 2
    clear hcur h1 h2 hN3 bX3 hB3 hB2 hN2 hQ hR hx hXg bX bR
    go_wp2
    exact ⟨rfl,_,Kc.rres rfl rfl (Nc.store3 bR3 _ _ _),hq⟩
   ·have e9 : remF d = ([],0) := by unfold remF; rw [decide_eq_false hw]; rfl
    rw [e9] at hce
    have hce : chgS s id remF = ((s.1,s.2.1,L ++ [] ++ M),0) := hce
    have hQ : ∀ W out (R : List (SDs × Value)),R.map Prod.fst = s.2.2 → Nest W w.heap.size out (R.take L.length ++ R.drop (L.length + 1)) → Below w.heap.size w W → Q (.returned (.tuple #[.agg (Nc.s s.1 s.2.1 out),.int .i64 0])) W := fun W out R hR hN hB => q W _ _ out _ 0 (by
     rw [show (R.take L.length ++ R.drop (L.length + 1)).map Prod.fst = L ++ [] ++ M by rw [List.map_append,List.map_take,List.map_drop,hR,e1,List.take_left,show L.length + 1 = (L ++ [d]).length by simp,show L ++ d :: M = (L ++ [d]) ++ M by simp,List.drop_left]; simp]; exact hce) hN hB
    clear fail q hv ho e1 e2 e3 e4 vd hce e9
    subst hW0
    go_enter Try.func22,Try.ntmps22
    have hw2 : (dW d == 0) = false := by simpa using hw
    go_upto_region 6 with (go_at_call 51; refine hop.mono ?_; clear hop; rintro en W1 ⟨go,cap,R,x,rfl,hR,hx,hN,hB1⟩; obtain ⟨hcx,hkl,hcap,hR32⟩ := hws (c := Nc.s s.1 s.2.1 (.slice (some ⟨go,0,none⟩) (R.length : Nat) cap)) hR hN hx; have hk1 : ((L.length : Nat) : Int) < ((R.length : Nat) : Int) := (by omega); clear hws)
    have hs1 := hB1.size
    rw [hsz0] at hN hs1
    have hal : Below W1.heap.size W1 (W1.alloc (.cells (Nc.s s.1 s.2.1 (.slice (some ⟨go,0,none⟩) (R.length : Nat) cap)) tyS)) := (Below.refl _ W1).alloc (Nat.le_refl _) _
    have bX := HB.new W1 tyS (Nc.s s.1 s.2.1 (.slice (some ⟨go,0,none⟩) (R.length : Nat) cap))
    have bR := (b2.below hB1 b2.lt).alloc (.cells (Nc.s s.1 s.2.1 (.slice (some ⟨go,0,none⟩) (R.length : Nat) cap)) tyS)
    have hN2 := hN.below hal
    have hB2 : Below w.heap.size w (W1.alloc (.cells (Nc.s s.1 s.2.1 (.slice (some ⟨go,0,none⟩) (R.length : Nat) cap)) tyS)) := (hB0.trans (hB1.mono hB0.size)).trans (hal.mono (by omega))
    have hXg : go < W1.heap.size := (Own.lt hN.own rfl).2
    have hXi : ∀ p ∈ R,∀ g,p.2.ownBlock = some g → g < W1.heap.size := fun p hp g hg => (Own.lt (hN.inn p hp) hg).2
    have hgo2 : w.heap.size + 2 ≤ go := (Own.lt hN.own rfl).1
    clear hB1 hal hN hB0 b2
    generalize W1.alloc (.cells #[.int .i64 s.1,.int .i64 s.2.1,.slice (some ⟨go,0,none⟩) (R.length : Nat) cap] 26) = W2 at *
    generalize W1.heap.size = X at *
    have xc2 := bX.cell 2
    have hcb : W2.drew.cell? ⟨X,2,none⟩ = some (.slice (some ⟨go,0,none⟩) (R.length : Nat) cap) := xc2
    have hXne : X ≠ go := by omega
    have hRne : w.heap.size + 1 ≠ go := by omega
    have fin : ∀ {a : Addr} {m c : Nat},m = R.length - L.length - 1 → (m = 0 ∨ a = ⟨go,(L.length + 1) * 11,none⟩) → ∃ v' w',(Builtin.append_ #[24,24] 24 #[.slice (some ⟨go,0,none⟩) L.length cap,.slice (some a) m c]).run Try.prog W2.drew = .ok v' w' ∧
      v' = .slice (some ⟨go,0,none⟩) (L.length + m) cap ∧ w'.cell? ⟨X,2,none⟩ = some (.slice (some ⟨go,0,none⟩) (R.length : Nat) cap) ∧ w'.frozen? ⟨X,2,none⟩ = false ∧
       HB (w'.setCell ⟨X,2,none⟩ (.slice (some ⟨go,0,none⟩) (L.length + m) cap)) X tyS (Nc.s s.1 s.2.1 (.slice (some ⟨go,0,none⟩) (L.length + m) cap)) ∧
       HB (w'.setCell ⟨X,2,none⟩ (.slice (some ⟨go,0,none⟩) (L.length + m) cap)) (w.heap.size + 1) tyS #[.int .i64 0,.int .i64 0,.slice none 0 0] ∧
       Q (.returned (.tuple #[.agg (Nc.s s.1 s.2.1 (.slice (some ⟨go,0,none⟩) (L.length + m) cap)),.int .i64 0])) ((((w'.setCell ⟨X,2,none⟩ (.slice (some ⟨go,0,none⟩) (L.length + m) cap)).setCell ⟨w.heap.size + 1,0,none⟩ (.int .i64 s.1)).setCell ⟨w.heap.size + 1,1,none⟩ (.int .i64 s.2.1)).setCell ⟨w.heap.size + 1,2,none⟩ (.slice (some ⟨go,0,none⟩) (L.length + m) cap)) := fun {a m c} hm ha => by
     have bd : Below W2.heap.size W2 W2.drew := (Below.refl _ W2).drew
     obtain ⟨w',g1,g2,g3⟩ := Kc.cut (c := c) (hN2.below bd) hx (by omega) hm ha
     have bX2 := (bX.below bd bX.lt).ev g3 hXne
     have bR2 := (bR.below bd bR.lt).ev g3 hRne
     have ev2 : Ev w' (w'.setCell ⟨X,2,none⟩ (.slice (some ⟨go,0,none⟩) (L.length + m) cap)) (fun b => b = X) := ⟨rfl,rfl,rfl,by simp [World.setCell],fun q hq hne => Below.heap_setCell w' ⟨X,2,none⟩ _ q hne⟩
     have bX3 := bX2.set 2 (.slice (some ⟨go,0,none⟩) (L.length + m) cap)
     have bR3 := bR2.ev ev2 (by omega)
     have hB3 : Below w.heap.size w (w'.setCell ⟨X,2,none⟩ (.slice (some ⟨go,0,none⟩) (L.length + m) cap)) := ((hB2.trans (bd.mono hB2.size)).trans (ev_below_n g3 (fun b hb => by omega) (by have := hB2.size; exact this))).setCell (p := ⟨X,2,none⟩) (by show w.heap.size ≤ X; omega) _
     have hinn : ∀ g,w.heap.size + 2 ≤ g → g < w'.heap.size → True := fun _ _ _ => trivial
     have hN3 : Nest (w'.setCell ⟨X,2,none⟩ (.slice (some ⟨go,0,none⟩) (L.length + m) cap)) (w.heap.size + 2) (.slice (some ⟨go,0,none⟩) (L.length + m) cap) (R.take L.length ++ R.drop (L.length + 1)) :=
      ⟨Own.ev g2.own ev2 (fun g hg e => by have : go = g := (by simpa [Value.ownBlock] using hg); omega),fun p hp => Own.ev (g2.inn p hp) ev2 (fun g hg e => by
       have hpR : p ∈ R := by
        rcases List.mem_append.1 hp with hp | hp
        ·exact List.mem_of_mem_take hp
        ·exact List.mem_of_mem_drop hp
       have := hXi p hpR g hg
       omega),g2.ne,g2.dis⟩
     exact ⟨_,w',g1,rfl,bX2.cell 2,bX2.frozen 2,bX3,bR3,hQ _ _ R hR (Nest.mono (hN3.ev (Nc.ev3 _ _ _) (fun b h1 _ e2 => by omega)) (by omega)) (hB3.trans (Nc.below3 (by omega) _ _ _))⟩
    have i1 : ((L.length : Nat) : Int) ≤ ((cap : Nat) : Int) := by omega
    have i2 : ((L.length : Nat) : Int) + 1 ≤ ((R.length : Nat) : Int) := by omega
    have i3 : ((R.length : Nat) : Int) ≤ ((cap : Nat) : Int) := by omega
    have i4 : IntKind.i64.wrap (((L.length : Nat) : Int) + 1) = ((L.length : Nat) : Int) + 1 := i64_id (by omega) (by omega)
    have i5 : (0 : Int) ≤ ((L.length : Nat) : Int) + 1 := by omega
    have i6 : (((L.length : Nat) : Int) + 1).toNat = L.length + 1 := by omega
    clear hB2 bR hQ hR hx bX hN2 hXi
    by_cases hc1 : cap = L.length + 1
    ·subst hc1
     have hRe : R.length = L.length + 1 := by omega
     have i7 : ((L.length : Nat) : Int) ≤ ((L.length : Nat) : Int) + 1 := by omega
     rw [hRe] at fin hcb i2 i3 ⊢
     have happ := fin (a := ⟨go,0,none⟩) (m := 0) (c := 0) (by omega) (.inl rfl)
     simp only [Nat.add_zero] at happ
     go_region_law ((refine Kq.stepApp (by rfl) (.tmp 33) (.tmp 38) _ (by rfl) (by rfl) (by rfl) (by rfl) happ ?_; rintro v' w' ⟨rfl,t1,t2,t3,t4,t5⟩))
     all_goals (have x0 := t3.cell 0; have x1 := t3.cell 1; have x2 := t3.cell 2; have f0 := t4.frozen 0; have f1 := t4.frozen 1; have f2 := t4.frozen 2; have y0 := t4.cell 0; have y1 := t4.cell 1; have y2 := t4.cell 2)
     all_goals go_wp2
     all_goals exact ⟨rfl,_,Kc.rres rfl rfl (Nc.store3 t4 _ _ _),t5⟩
    ·have happ := fin (a := ⟨go,(L.length + 1) * 11,none⟩) (m := R.length - (L.length + 1)) (c := cap - (L.length + 1)) (by omega) (.inr rfl)
     go_region_law ((refine Kq.stepApp (by rfl) (.tmp 33) (.tmp 38) _ (by rfl) (by rfl) (by rfl) (by rfl) happ ?_; rintro v' w' ⟨rfl,t1,t2,t3,t4,t5⟩))
     all_goals (have x0 := t3.cell 0; have x1 := t3.cell 1; have x2 := t3.cell 2; have f0 := t4.frozen 0; have f1 := t4.frozen 1; have f2 := t4.frozen 2; have y0 := t4.cell 0; have y1 := t4.cell 1; have y2 := t4.cell 2)
     all_goals go_wp2
     all_goals exact ⟨rfl,_,Kc.rres rfl rfl (Nc.store3 t4 _ _ _),t5⟩
end Go.Proofs
namespace Go.Proofs
open Go.RowKit Go.Shelf Go.AL
noncomputable def E_rps : Ent := ⟨28,[.g tSSd,.c (.int .i64),.c (.int .i64)],[.g tSSd,.v (.int .i64)],fun a => (fun a => okD a.1 : SSd × Int × Int → Bool) a,fun a => (fun a => chgS a.1 a.2.1 (pstF a.2.2) : SSd × Int × Int → SSd × Int) a⟩
theorem E_rps_ok : E_rps.Ok Try.prog := by
 rintro ⟨s,id,e⟩ hp vs hv
 have hp : okD s = true := hp
 have hv : ArgsV [.g tSSd,.c (.int .i64),.c (.int .i64)] ((s,id,e) : SSd × Int × Int) vs := hv
 have q : ArgsV [.g tSSd,.c (.int .i64),.c (.int .i64)] ((s,id,e) : SSd × Int × Int) vs = ∃ v r,vs = v :: r ∧ ArgV (.g tSSd) s v ∧ ∃ v1 r1,r = v1 :: r1 ∧ ArgV (.c (.int .i64)) id v1 ∧ ∃ v2,r1 = [v2] ∧ ArgV (.c (.int .i64)) e v2 := rfl
 rw [q] at hv
 obtain ⟨v,r,rfl,k0,v1,r1,rfl,k1,v2,rfl,k2⟩ := hv
 refine ⟨fun rds h => resOK _ _ rds h,fun w A us hA hsz hrel => ?_⟩
 obtain ⟨u0,a0,b0⟩ := hrel 0 _ rfl
 obtain ⟨u1,a1,b1⟩ := hrel 1 _ rfl
 obtain ⟨u2,a2,b2⟩ := hrel 2 _ rfl
 have hus := arr3 hsz a0 a1 a2
 obtain ⟨u,rows,rfl,hu⟩ := Nr.Arg.of hA k0 b0
 have k1 := tyV_int.1 k1
 subst k1
 have k2 := tyV_int.1 k2
 subst k2
 have b1 : RelP w A (.int .i64 id) u1 := b1
 have b2 : RelP w A (.int .i64 e) u2 := b2
 cases b1; cases b2
 subst hus
 refine Kc.post hu hp id e _ fun W n v out R err hs hN hB => ?_
 refine ⟨[.v (.agg [.int .i64 n,.int .i64 v,.sl (Ns.pV R)]),.v (.int .i64 err)],[.agg (Nc.s n v out),.int .i64 err],_,_,?_,rfl,Nv.postR hA hN hB⟩
 show RessV [.g tSSd,.v (.int .i64)] (chgS s id (pstF e) : SSd × Int) _
 rw [hs]
 exact (⟨_,_,rfl,⟨_,rfl,Nv.sRowOf⟩,_,rfl,_,rfl,tyV_int.2 rfl⟩ : ∃ rd r,[RD.v (.agg [.int .i64 n,.int .i64 v,.sl (Ns.pV R)]),.v (.int .i64 err)] = rd :: r ∧ (∃ row,rd = .v (.agg row) ∧ RowV tSSd ((n,v,R.map Prod.fst) : SSd) row) ∧ ∃ rd2,r = [rd2] ∧ ∃ y,rd2 = .v y ∧ TyV (.int .i64) err y)
noncomputable def E_rrm : Ent := ⟨22,[.g tSSd,.c (.int .i64)],[.g tSSd,.v (.int .i64)],fun a => (fun a => okD a.1 : SSd × Int → Bool) a,fun a => (fun a => chgS a.1 a.2 remF : SSd × Int → SSd × Int) a⟩
theorem E_rrm_ok : E_rrm.Ok Try.prog := by
 rintro ⟨s,id⟩ hp vs hv
 have hp : okD s = true := hp
 have hv : ArgsV [.g tSSd,.c (.int .i64)] ((s,id) : SSd × Int) vs := hv
 have q : ArgsV [.g tSSd,.c (.int .i64)] ((s,id) : SSd × Int) vs = ∃ v r,vs = v :: r ∧ ArgV (.g tSSd) s v ∧ ∃ v1,r = [v1] ∧ ArgV (.c (.int .i64)) id v1 := rfl
 rw [q] at hv
 obtain ⟨v,r,rfl,k0,v1,rfl,k1⟩ := hv
 refine ⟨fun rds h => resOK _ _ rds h,fun w A us hA hsz hrel => ?_⟩
 obtain ⟨u0,a0,b0⟩ := hrel 0 _ rfl
 obtain ⟨u1,a1,b1⟩ := hrel 1 _ rfl
 have hus : us = #[u0,u1] := by
  obtain ⟨l2⟩ := us
  match l2,hsz,a0,a1 with
  | [x0,x1],_,a0,a1 =>
   simp at a0 a1
   rw [a0,a1]
 obtain ⟨u,rows,rfl,hu⟩ := Nr.Arg.of hA k0 b0
 have k1 := tyV_int.1 k1
 subst k1
 have b1 : RelP w A (.int .i64 id) u1 := b1
 cases b1
 subst hus
 refine Kc.rem hu hp id _ fun W n v out R err hs hN hB => ?_
 refine ⟨[.v (.agg [.int .i64 n,.int .i64 v,.sl (Ns.pV R)]),.v (.int .i64 err)],[.agg (Nc.s n v out),.int .i64 err],_,_,?_,rfl,Nv.postR hA hN hB⟩
 show RessV [.g tSSd,.v (.int .i64)] (chgS s id remF : SSd × Int) _
 rw [hs]
 exact (⟨_,_,rfl,⟨_,rfl,Nv.sRowOf⟩,_,rfl,_,rfl,tyV_int.2 rfl⟩ : ∃ rd r,[RD.v (.agg [.int .i64 n,.int .i64 v,.sl (Ns.pV R)]),.v (.int .i64 err)] = rd :: r ∧ (∃ row,rd = .v (.agg row) ∧ RowV tSSd ((n,v,R.map Prod.fst) : SSd) row) ∧ ∃ rd2,r = [rd2] ∧ ∃ y,rd2 = .v y ∧ TyV (.int .i64) err y)
end Go.Proofs
