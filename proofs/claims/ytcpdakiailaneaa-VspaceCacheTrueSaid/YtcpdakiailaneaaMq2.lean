/-
  Layer 16: vspace.Map, walked to its end. By an AI agent.
-/
import Derived.Test.YtcpdakiailaneaaMq
import Derived.Test.YtcpdakiailaneaaVj
namespace Go.Proofs
open Go.RowKit Go.Shelf Go.AL
set_option linter.unusedVariables false
set_option linter.unusedSimpArgs false
attribute [local go_sem] Oper.semAt_some
theorem lowB_of (x : Int) : ∀ (l : List SMp) (j : Nat), (∀ q m, q < j → l[q]? = some m → m.1 < x) → (∀ m, l[j]? = some m → ¬ m.1 < x) → j ≤ l.length → lowB l x = j
  | [], j, _, _, h => by simp at h; subst h; rfl
  | a :: l, 0, _, h2, _ => by
    have := h2 a rfl
    simp [lowB, this]
  | a :: l, j + 1, h1, h2, h3 => by
    have h0 := h1 0 a (by omega) rfl
    have ih := lowB_of x l j (fun q m hq hm => h1 (q + 1) m (by omega) (by simpa using hm)) (fun m hm => h2 m (by simpa using hm)) (by simpa using h3)
    simp only [lowB, List.takeWhile_cons, decide_eq_true h0, if_true, List.length_cons] at ih ⊢
    omega
structure Kp (p : Prop) : Prop where
  h : p
def mapE (L : List SPT) (t : SPT) (M : List SPT) (index : Int) (mm : SMp) : List SPT × Int :=
  bif decide (lowB (Ns.maps t) index < (Ns.maps t).length) && decide (((Ns.maps t).getD (lowB (Ns.maps t) index) zM).1 = index) then ([], 12) else
  (L ++ (t.1, t.2.1, t.2.2.1, insAt (Ns.maps t) (lowB (Ns.maps t) index) mm) :: M, 0)
def mapT (ts : List SPT) (table : SCp) (index : Int) (mm : SMp) : List SPT × Int :=
  bif decide (ftS ts table.2.1 < 0) then (insAt ts (posI (findI (fun t => decide (t.1 > table.2.1)) ts 0) ts.length) (table.2.1, table.2.2.2.2.1, table.2.2.2.2.2.1, [mm]), 0) else
  bif decide (lowB (Ns.maps (ts.getD (ftS ts table.2.1).toNat zPT)) index < (Ns.maps (ts.getD (ftS ts table.2.1).toNat zPT)).length) && decide (((Ns.maps (ts.getD (ftS ts table.2.1).toNat zPT)).getD (lowB (Ns.maps (ts.getD (ftS ts table.2.1).toNat zPT)) index) zM).1 = index) then ([], 12) else
  (ts.set (ftS ts table.2.1).toNat ((ts.getD (ftS ts table.2.1).toNat zPT).1, (ts.getD (ftS ts table.2.1).toNat zPT).2.1, (ts.getD (ftS ts table.2.1).toNat zPT).2.2.1, insAt (Ns.maps (ts.getD (ftS ts table.2.1).toNat zPT)) (lowB (Ns.maps (ts.getD (ftS ts table.2.1).toNat zPT)) index) mm), 0)
theorem set_mid {α : Type} (L : List α) (x y : α) (M : List α) : (L ++ x :: M).set L.length y = L ++ y :: M := by
  rw [List.set_append_right _ _ (Nat.le_refl _), Nat.sub_self]; rfl
theorem mapT_at {ts : List SPT} {table : SCp} {index : Int} {mm : SMp} {L M : List SPT} {t : SPT} (h : 0 ≤ ftS ts table.2.1) (hk : (ftS ts table.2.1).toNat = L.length) (ht : ts = L ++ t :: M) : mapT ts table index mm = mapE L t M index mm := by
  have e : ts.getD (ftS ts table.2.1).toNat zPT = t := by rw [hk, ht]; simp
  unfold mapT mapE
  rw [decide_eq_false (show ¬ ftS ts table.2.1 < 0 by omega), cond_false, e, hk]
  conv => lhs; rw [ht, set_mid]
theorem mapT_new {ts : List SPT} {table : SCp} {index : Int} {mm : SMp} (h : ftS ts table.2.1 < 0) : mapT ts table index mm = mapE (ts.take (posI (findI (fun t => decide (t.1 > table.2.1)) ts 0) ts.length)) (table.2.1, table.2.2.2.2.1, table.2.2.2.2.2.1, []) (ts.drop (posI (findI (fun t => decide (t.1 > table.2.1)) ts 0) ts.length)) index mm := by
  unfold mapT mapE
  rw [decide_eq_true h, cond_true]
  simp [Ns.maps, insAt, lowB]
structure Mq.At (w wx : World) (n0 g oc : Nat) (L : List (SPT × Value)) (t : SPT) (v : Value) (M : List (SPT × Value)) (sp : List SPT × Int) (index : Int) (mm : SMp) (table : SCp) (n : SNd) (pv : Value) (Bm : Nat) : Prop where
  nest : Nest wx n0 (.slice (some ⟨g, 0, none⟩) ((L ++ (t, v) :: M).length : Nat) oc) (L ++ (t, v) :: M)
  fr : Mq.Fr w wx table n pv
  bM : HB wx Bm tyM (Ns.m mm).toArray
  lo : w.heap.size + 3 ≤ n0
  hi : n0 ≤ wx.heap.size
  bm : Bm < n0
  len : (Ns.maps t).length ≤ 1099511627776
  sp : sp = mapE (L.map Prod.fst) t (M.map Prod.fst) index mm
theorem Mq.find {W : World} {n0 : Nat} {out : Value} {R : List (SPT × Value)} {ts : List SPT} (hN : Nest W n0 out R) (hR : R.map Prod.fst = ts) (hlen : ts.length ≤ 1099511627776) (base : Int) :
    Calls Try.prog 57 #[out, .int .i64 base] W fun en w' => en = .returned (.tuple #[.int .i64 (ftS ts base), .bool (decide (ftS ts base ≥ 0))]) ∧ Below W.heap.size W w' := by
  subst hR
  exact Ns.callIB (x := ftS (R.map Prod.fst) base) (b := decide (ftS (R.map Prod.fst) base ≥ 0)) E_find_ok ((R.map Prod.fst : List SPT), base) rfl (decide_eq_true hlen) HEq.rfl (ArgsAt.two hN.arg ArgAt.int)
theorem Mq.ixp {W : World} {n0 : Nat} {out : Value} {R : List (SPT × Value)} {ts : List SPT} (hN : Nest W n0 out R) (hR : R.map Prod.fst = ts) (hlen : ts.length ≤ 1099511627776) {table : SCp} {B : Nat} (hb : HB W B tyC (capA table)) :
    Calls Try.prog 58 #[out, .func (.func 59) #[] #[.pointer (some ⟨B, 0, none⟩)]] W fun en w' => en = .returned (.int .i64 (findI (fun t => decide (t.1 > table.2.1)) ts 0)) ∧ Below W.heap.size W w' := by
  subst hR
  have hfn : ArgAt W (.fn 59 [tSCp]) table (.func (.func 59) #[] #[.pointer (some ⟨B, 0, none⟩)]) := by
    refine ⟨.fn _ [.cp ((capL table).map V.ofCell) 0], ⟨_, rfl, _, rfl, _, rfl, Ns.cRow_of table⟩, #[.pointer (some ⟨B, 0, none⟩)], rfl, rfl, fun i x hx => ?_⟩
    match i, hx with
    | 0, hx =>
      simp at hx
      subst hx
      refine ⟨_, rfl, B, 0, fun k => ((capL table)[k]?).getD undef, rfl, hb.lt, fun h => ?_, fun k x hk => ?_, fun k x hk => ?_⟩
      · obtain ⟨o, ob, h, _⟩ := h; cases h
      all_goals
        have hk : ((capL table).map V.ofCell)[k]? = some x := hk
        rw [List.getElem?_map, Option.map_eq_some_iff] at hk
        obtain ⟨u, hu, rfl⟩ := hk
        simp only [hu, Option.getD_some]
      · rw [Nat.zero_add, hb.cell]
        have : (capA table)[k]? = (capL table)[k]? := by rw [← List.getElem?_toArray]
        rw [this]; exact hu
      · refine relP_ofCell u ?_
        have hm : u ∈ capL table := List.mem_of_getElem? hu
        simp only [List.mem_cons, List.not_mem_nil, or_false] at hm
        rcases hm with rfl | rfl | rfl | rfl | rfl | rfl | rfl <;> rfl
    | i + 1, hx => simp at hx
  exact Ns.callI (b := findI (fun t => decide (t.1 > table.2.1)) (R.map Prod.fst) 0) E_ixp_ok ((R.map Prod.fst : List SPT), table) rfl (decide_eq_true hlen) HEq.rfl (ArgsAt.two hN.arg hfn)
theorem ps_ins (R : List (SPT × Value)) (k : Nat) (x : SPT × Value) : Ns.ps (R.take k ++ x :: R.drop k) = (Ns.ps R).take (k * 4) ++ Ns.p x ++ (Ns.ps R).drop (k * 4) := by
  have e1 : (Ns.ps R).take (k * 4) = Ns.ps (R.take k) := flat_take (f := Ns.p) (k := 4) (fun _ => rfl) R k
  have e2 : (Ns.ps R).drop (k * 4) = Ns.ps (R.drop k) := flat_drop (f := Ns.p) (k := 4) (fun _ => rfl) R k
  rw [e1, e2]
  simp only [Ns.ps, List.flatMap_append, List.flatMap_cons, List.append_assoc]
theorem Mq.ins {W : World} {n0 : Nat} {out : Value} {R : List (SPT × Value)} {k : Nat} (hN : Nest W n0 out R) (hw : n0 ≤ W.heap.size) (hk : k ≤ R.length) (hlen : R.length ≤ 1099511627776) {vb vc : Nat} {t : SPT}
    (hvb : HB W vb tyP #[.int .i64 t.1, .int .i64 t.2.1, .int .i64 t.2.2.1, .slice none 0 0]) (hne : out.ownBlock ≠ some vb) (ht : Ns.maps t = []) :
    Calls Try.prog 60 #[out, .int .i64 k, .slice (some ⟨vb, 0, none⟩) 1 vc] W fun en w' => ∃ g c, en = .returned (.slice (some ⟨g, 0, none⟩) ((R.take k ++ (t, .slice none 0 0) :: R.drop k).length : Nat) c) ∧
      Nest w' n0 (.slice (some ⟨g, 0, none⟩) ((R.take k ++ (t, .slice none 0 0) :: R.drop k).length : Nat) c) (R.take k ++ (t, .slice none 0 0) :: R.drop k) ∧ Ev W w' (fun q => out.ownBlock = some q) := by
  have hown : W.ownsRow 0 tyP 4 out R.length (Ns.ps R) := ⟨hN.own.1, hN.own.2.imp id fun ⟨g', c', cu, e1, e2, e3⟩ => ⟨g', c', cu, e1, Nat.zero_le _, e3⟩⟩
  refine (vinP_walk W out R.length k vb vc (Ns.ps R) (Ns.p (t, .slice none 0 0)) _ hk (by omega) (by simp only [maxLen]; omega) hown hne hvb (by rfl) rfl hN.one (by
    intro v hv
    simp only [Ns.p, List.mem_cons, List.not_mem_nil, or_false] at hv
    rcases hv with rfl | rfl | rfl | rfl <;> rfl)).mono ?_
  rintro en w' ⟨s', rfl, hO⟩
  rw [← ps_ins] at hO
  have hl : (R.take k ++ (t, .slice none 0 0) :: R.drop k).length = R.length + 1 := by simp; omega
  rw [← hl] at hO
  have hev := hO.ev
  obtain ⟨g, cap, cur, e1, _⟩ := hO.row
  have hd : (R.take k ++ (t, .slice none 0 0) :: R.drop k).Pairwise fun p q => ∀ g, p.2.ownBlock = some g → q.2.ownBlock ≠ some g := by
    have h1 := hN.dis
    rw [← List.take_append_drop k R, List.pairwise_append] at h1
    rw [List.pairwise_append, List.pairwise_cons]
    refine ⟨h1.1, ⟨fun q _ b hb => (by cases hb), h1.2.1⟩, fun p hp q hq b hb e => ?_⟩
    rcases List.mem_cons.1 hq with rfl | hq
    · cases e
    · exact h1.2.2 p hp q hq b hb e
  have hN' := nest_outer hN hw hO (fun p hp => by
    rcases List.mem_append.1 hp with hp | hp
    · exact .inl (List.mem_of_mem_take hp)
    · rcases List.mem_cons.1 hp with rfl | hp
      · exact .inr ⟨rfl, ht⟩
      · exact .inl (List.mem_of_mem_drop hp)) hd
  rw [e1] at hN' ⊢
  exact ⟨g, cap, rfl, hN', hev⟩
theorem ms_ins (l : List SMp) (k : Nat) (x : SMp) : Ns.ms (insAt l k x) = (Ns.ms l).take (k * 6) ++ Ns.m x ++ (Ns.ms l).drop (k * 6) := by
  have e1 : (Ns.ms l).take (k * 6) = Ns.ms (l.take k) := flat_take (f := Ns.m) (k := 6) (fun _ => rfl) l k
  have e2 : (Ns.ms l).drop (k * 6) = Ns.ms (l.drop k) := flat_drop (f := Ns.m) (k := 6) (fun _ => rfl) l k
  rw [e1, e2]
  simp only [insAt, Ns.ms, List.flatMap_append, List.flatMap_cons, List.flatMap_nil, List.append_assoc, List.append_nil]
theorem Mq.last {w wx : World} {nn g oc : Nat} {L : List (SPT × Value)} {t : SPT} {v : Value} {M : List (SPT × Value)} {sp : List SPT × Int} {index : Int} {mm : SMp} {table : SCp} {n : SNd} {pv : Value} {Bm : Nat}
    (hA : Mq.At w wx nn g oc L t v M sp index mm table n pv Bm) {j : Nat} (hj : j ≤ (Ns.maps t).length) (hlow : lowB (Ns.maps t) index = j) (hno : ∀ m, (Ns.maps t)[j]? = some m → m.1 ≠ index)
    (Q : Ending → World → Prop) (hQ : ∀ (W : World) (out : Value) (R : List (SPT × Value)) (e : Int), sp = (R.map Prod.fst, e) → Nest W w.heap.size out R → Below w.heap.size w W → Q (.returned (.tuple #[out, .int .i64 e])) W)
    (W : World) (hW : W.heap = (wx.alloc (.cells (Ns.m mm).toArray tyM)).heap) (hos : W.os = wx.os) (htp : W.tape = wx.tape) (hou : W.output = wx.output) :
    Calls Try.prog 61 #[v, .int .i64 j, .slice (some ⟨wx.heap.size, 0, none⟩) 1 1] W fun en w' => ∃ va' vc', en = .returned (.slice va' (((Ns.maps t).length + 1 : Nat)) vc') ∧
      w'.cell? ⟨g, L.length * 4 + 3, none⟩ = some v ∧ (∀ k, k < 6 → w'.cell? ⟨Bm, k, none⟩ = (Ns.m mm)[k]?) ∧ w'.frozen? ⟨g, L.length * 4 + 3, none⟩ = false ∧
      Q (.returned (.tuple #[.slice (some ⟨g, 0, none⟩) ((L ++ (t, v) :: M).length : Nat) oc, .int .i64 0])) (w'.setCell ⟨g, L.length * 4 + 3, none⟩ (.slice va' (((Ns.maps t).length + 1 : Nat)) vc')) := by
  have hmem : (t, v) ∈ L ++ (t, v) :: M := by simp
  have hB1 : Below wx.heap.size wx W := ⟨hos, htp, hou, by rw [hW]; simp, fun k hk => by rw [hW]; first | exact heap_alloc_old wx _ hk | exact heap_alloc_old wx _ k hk⟩
  have hN1 := hA.nest.below hB1
  have hinn := hN1.inn _ hmem
  have hw1 : nn ≤ W.heap.size := Nat.le_trans hA.hi hB1.size
  have hown : W.ownsRow 0 tyM 6 v (Ns.maps t).length (Ns.ms (Ns.maps t)) := ⟨hinn.1, hinn.2.imp id fun ⟨g', c', cu, e1, e2, e3⟩ => ⟨g', c', cu, e1, Nat.zero_le _, e3⟩⟩
  have hvlt := fun b hb => Own.lt (hA.nest.inn _ hmem) (g := b) hb
  have hvb : HB W wx.heap.size tyM (Ns.m mm).toArray := by
    have := HB.new wx tyM (Ns.m mm).toArray
    unfold HB at this ⊢
    rw [hW]; exact this
  have hml := hA.len
  refine (vinM_walk W v (Ns.maps t).length j wx.heap.size 1 (Ns.ms (Ns.maps t)) (Ns.m mm) _ hj (by omega) (by simp only [maxLen]; omega) hown (fun e => by have := hvlt _ e; omega) hvb (by rfl) rfl (Ns.ms_one _) (by
    intro u hu
    simp only [Ns.m, List.mem_cons, List.not_mem_nil, or_false] at hu
    rcases hu with rfl | rfl | rfl | rfl | rfl | rfl <;> rfl)).mono ?_
  rintro en w' ⟨s', rfl, hO⟩
  rw [← ms_ins] at hO
  have hl : (insAt (Ns.maps t) j mm).length = (Ns.maps t).length + 1 := by simp [insAt]; omega
  obtain ⟨va', cur', curr, rfl, _⟩ := hO.row
  rw [← hl] at hO ⊢
  have hev := hO.ev
  obtain ⟨h1, h2, h3⟩ := nest_inner hN1 rfl hw1 hO
  have hvg : v.ownBlock ≠ some g := fun e => hA.nest.ne _ hmem g e rfl
  have hcv : wx.cell? ⟨g, L.length * 4 + 3, none⟩ = some v := by
    rcases hA.nest.own.2 with ⟨e, _⟩ | ⟨g', cap', cur, e1, _, e3, _, _, _, e7⟩
    · cases e
    simp only [Value.slice.injEq, Option.some.injEq, Addr.mk.injEq] at e1
    obtain ⟨⟨rfl, _⟩, _, rfl⟩ := e1
    refine own_cells (n0 := nn) (cap := oc) (n := (L ++ (t, v) :: M).length) (k := 4) e3 e7 ?_
    have := flat_get (f := Ns.p) (k := 4) (fun _ => rfl) (L ++ (t, v) :: M) L.length 3 (t, v) (by simp) (by omega)
    exact this
  have hgl : g < wx.heap.size := by
    simp only [World.cell?] at hcv
    cases hg : wx.heap[g]? with
    | none => simp [hg] at hcv
    | some o => exact (Array.getElem?_eq_some_iff.1 hg).1
  have hgn : nn ≤ g := (Own.lt hA.nest.own (g := g) rfl).1
  have hbw : w.heap.size ≤ nn := by have := hA.lo; omega
  have hw' : Below nn wx w' := (hB1.mono hA.hi).trans (ev_below_n hev (fun q hq => (hvlt q hq).1) hw1)
  refine ⟨_, _, rfl, ?_, fun k hk => ?_, h2, ?_⟩
  · have : w'.heap[g]? = wx.heap[g]? := (hev.block g (by have := hB1.size; omega) hvg).trans (hB1.block g hgl)
    simp only [World.cell?, this] at hcv ⊢
    exact hcv
  · rw [(hA.bM.below hw' hA.bm).cell k, List.getElem?_toArray]
  · have hN2 : Nest (w'.setCell ⟨g, L.length * 4 + 3, none⟩ (.slice (some ⟨va', 0, none⟩) ((insAt (Ns.maps t) j mm).length : Nat) cur')) w.heap.size (.slice (some ⟨g, 0, none⟩) ((L ++ (t, v) :: M).length : Nat) oc) (L ++ ((t.1, t.2.1, t.2.2.1, insAt (Ns.maps t) j mm), .slice (some ⟨va', 0, none⟩) ((insAt (Ns.maps t) j mm).length : Nat) cur') :: M) :=
      ⟨⟨h1.own.1, h1.own.2.imp id fun ⟨g', c', cu, e1, e2, e3⟩ => ⟨g', c', cu, e1, by omega, e3⟩⟩, fun p hp => ⟨(h1.inn p hp).1, (h1.inn p hp).2.imp id fun ⟨g', c', cu, e1, e2, e3⟩ => ⟨g', c', cu, e1, by omega, e3⟩⟩, h1.ne, h1.dis⟩
    refine hQ _ _ _ 0 ?_ hN2 ?_
    · rw [hA.sp]
      unfold mapE
      rw [hlow]
      have : (decide (j < (Ns.maps t).length) && decide (((Ns.maps t).getD j zM).1 = index)) = false := by
        by_cases h : j < (Ns.maps t).length
        · have hm := List.getElem?_eq_getElem h
          rw [Bool.and_eq_false_iff]; right
          apply decide_eq_false
          rw [List.getD_eq_getElem?_getD, hm]
          exact hno _ hm
        · rw [decide_eq_false h]; rfl
      rw [this]
      simp
    · exact (hA.fr.bel.trans (hw'.mono hbw)).setCell (by show w.heap.size ≤ g; omega) _
theorem own_shape {W : World} {n0 e k : Nat} {v : Value} {n : Nat} {xs : List Value} (h : W.ownsRow n0 e k v n xs) : ∃ a c, v = .slice a (n : Nat) c := by
  rcases h.2 with ⟨rfl, rfl⟩ | ⟨g', cap, cur, rfl, h1, h2, h3⟩
  · exact ⟨_, _, rfl⟩
  · exact ⟨_, _, rfl⟩
set_option maxRecDepth 100000 in
set_option maxHeartbeats 4000000 in
theorem Mq.all (w : World) (u pv : Value) (ts : List SPT) (table : SCp) (index : Int) (n : SNd) (mask : Int) (hok : okM ts = true) (hu : ArgAt w (.rd tSPT) ts u) (hn : ArgAt w (.g tSNd) n (ndV n pv)) (hp1 : pv.oneCell' = true)
    (Q : Ending → World → Prop) (hQ : ∀ W out R e, mapS (ts, table, index, n, mask) = (R.map Prod.fst, e) → Nest W w.heap.size out R → Below w.heap.size w W → Q (.returned (.tuple #[out, .int .i64 e])) W) :
    Calls Try.prog 18 #[u, capV table, .int .i64 index, ndV n pv, .int .i64 mask] w Q := by
  refine Mq.calls w u pv ts table index n mask hok hu hn hp1 Q hQ fun hT hN hm0 hm7 hc0 hM hi0 => ?_
  have hlen := okM_len hok
  have hcV : ∀ W, Below w.heap.size w W → Calls Try.prog 34 #[u] W fun en w' => en = .returned (.bool true) ∧ Below W.heap.size W w' := fun W hB => Ns.callB E_vval_ok ts rfl hok (heq_of_eq hT) (ArgsAt.one (hu.below hB))
  have hcN : ∀ W, Below w.heap.size w W → Calls Try.prog 52 #[ndV n pv] W fun en w' => en = .returned (.bool true) ∧ Below W.heap.size W w' := fun W hB => Ns.callB E_nval_ok n rfl rfl (heq_of_eq hN) (ArgsAt.one (hn.below hB))
  have hcT : ∀ W, Below w.heap.size w W → Calls Try.prog 53 #[u, capV table] W fun en w' => en = .returned (.int .i64 0) ∧ Below W.heap.size W w' := fun W hB => Ns.callI E_ctab_ok (ts, table) rfl (decide_eq_true hlen) (heq_of_eq hc0) (ArgsAt.two (hu.below hB) (ArgAt.cap W table))
  have hcM : ∀ W, Below w.heap.size w W → Calls Try.prog 54 #[capV table, capV (ncap n)] W fun en w' => en = .returned (.bool true) ∧ Below W.heap.size W w' := fun W hB => Ns.callB E_mbl_ok (table, ncap n) rfl rfl (heq_of_eq hM) (ArgsAt.two (ArgAt.cap W table) (ArgAt.cap W _))
  have hcI : ∀ W, Below w.heap.size w W → Calls Try.prog 55 #[capV table, .int .i64 index] W fun en w' => en = .returned (.int .i64 0) ∧ Below W.heap.size W w' := fun W hB => Ns.callI E_cidx_ok (table, index) rfl rfl (heq_of_eq hi0) (ArgsAt.two (ArgAt.cap W table) ArgAt.int)
  have b0 := (HB.new w tyC (capA table)).alloc (.cells (ndA n pv) tyN)
  have b1 := HB.new (w.alloc (.cells (capA table) tyC)) tyN (ndA n pv)
  have hB0 : Below w.heap.size w ((w.alloc (.cells (capA table) tyC)).alloc (.cells (ndA n pv) tyN)) := ((Below.refl _ w).alloc (Nat.le_refl _) _).alloc (by simp) _
  simp only [World.size_alloc] at b1
  obtain ⟨W0, hW0⟩ : ∃ W0, W0 = (w.alloc (.cells (capA table) tyC)).alloc (.cells (ndA n pv) tyN) := ⟨_, rfl⟩
  rw [← hW0] at b0 b1 hB0
  have fr : Mq.Fr w W0 table n pv := ⟨hB0, b0, b1⟩
  clear b0 b1 hB0
  have hS : Kp (mapS (ts, table, index, n, mask) = mapT ts table index (mapM table index n mask)) := ⟨by
    simp only [mapS, hT, hN, hM, decide_eq_false hm0, decide_eq_false hm7, decide_eq_false (show ¬ ctabS (ts, table) ≠ 0 from fun h => h hc0), decide_eq_false (show ¬ cidxS (table, index) ≠ 0 from fun h => h hi0), Bool.not_true, cond_false]
    rfl⟩
  generalize mapS (ts, table, index, n, mask) = sp at hQ hS
  have hu22 := Try.underlying22
  have hu58 := Try.underlying58
  go_enter Try.func18, Try.ntmps18
  go_upto_region 1 with fail
  rw [← hW0]
  clear hW0
  obtain ⟨⟨t0, t1, t2, t3, t4, t5, t6⟩, n0, n1, n2, n3, n4, n5, n6, n7, n8, n9, n10⟩ := fr.cells
  go_upto_region 12 with (first
      | (go_at_call 34; refine (hcV _ fr.bel).mono ?_; rintro en W1 ⟨rfl, hB1⟩; replace fr := fr.next hB1; obtain ⟨⟨t0, t1, t2, t3, t4, t5, t6⟩, n0, n1, n2, n3, n4, n5, n6, n7, n8, n9, n10⟩ := fr.cells)
      | (go_at_call 52; refine (hcN _ fr.bel).mono ?_; rintro en W1 ⟨rfl, hB1⟩; replace fr := fr.next hB1; obtain ⟨⟨t0, t1, t2, t3, t4, t5, t6⟩, n0, n1, n2, n3, n4, n5, n6, n7, n8, n9, n10⟩ := fr.cells)
      | (go_at_call 53; refine (hcT _ fr.bel).mono ?_; rintro en W1 ⟨rfl, hB1⟩; replace fr := fr.next hB1; obtain ⟨⟨t0, t1, t2, t3, t4, t5, t6⟩, n0, n1, n2, n3, n4, n5, n6, n7, n8, n9, n10⟩ := fr.cells)
      | (go_at_call 54; refine (hcM _ fr.bel).mono ?_; rintro en W1 ⟨rfl, hB1⟩; replace fr := fr.next hB1; obtain ⟨⟨t0, t1, t2, t3, t4, t5, t6⟩, n0, n1, n2, n3, n4, n5, n6, n7, n8, n9, n10⟩ := fr.cells)
      | (go_at_call 55; refine (hcI _ fr.bel).mono ?_; rintro en W1 ⟨rfl, hB1⟩; replace fr := fr.next hB1; obtain ⟨⟨t0, t1, t2, t3, t4, t5, t6⟩, n0, n1, n2, n3, n4, n5, n6, n7, n8, n9, n10⟩ := fr.cells))
  have bM := HB.new W1 tyM #[.int .i64 index, .int .i64 n.2.2.2.2.2.1, .int .i64 0, .int .i64 n.1, .int .i64 n.2.1, .int .i64 n.2.2.1]
  have fr1 := fr
  replace fr := fr.next ((Below.refl _ W1).alloc (Nat.le_refl _) (.cells #[.int .i64 index, .int .i64 n.2.2.2.2.2.1, .int .i64 0, .int .i64 n.1, .int .i64 n.2.1, .int .i64 n.2.2.1] tyM))
  obtain ⟨W2, hW2⟩ : ∃ W2, W2 = W1.alloc (.cells #[.int .i64 index, .int .i64 n.2.2.2.2.2.1, .int .i64 0, .int .i64 n.1, .int .i64 n.2.1, .int .i64 n.2.2.1] tyM) := ⟨_, rfl⟩
  rw [← hW2] at bM fr ⊢
  have hBm : w.heap.size + 2 ≤ W1.heap.size := by have := fr1.bN.lt; omega
  clear hW2 t0 t1 t2 t3 t4 t5 t6 n0 n1 n2 n3 n4 n5 n6 n7 n8 n9 n10 hcV hcN hcT hcM hcI
  generalize W1.heap.size = Bm at bM hBm ⊢
  clear hB1 fr1
  obtain ⟨⟨t0, t1, t2, t3, t4, t5, t6⟩, n0, n1, n2, n3, n4, n5, n6, n7, n8, n9, n10⟩ := fr.cells
  have bm2 := bM.cell 2
  have fm2 := bM.frozen 2
  go_upto_if 62 with fail
  go_cut [] from 20 (fun wx => Mq.Fr w wx table n pv ∧ HB wx Bm tyM (Ns.m (mapM table index n mask)).toArray)
  case first =>
    by_cases hlv : table.2.2.2.2.2.1 = 0
    · go_wp2_with fail
      go_meet
      refine ⟨⟨fr.bel.setCell (by show w.heap.size ≤ Bm; omega) _, fr.bT.other (by omega) _ _, fr.bN.other (by omega) _ _⟩, ?_⟩
      have h := bM.set 2 (.int .i64 (mapRt n mask))
      have e : (Ns.m (mapM table index n mask)).toArray = #[.int .i64 index, .int .i64 n.2.2.2.2.2.1, .int .i64 (mapRt n mask), .int .i64 n.1, .int .i64 n.2.1, .int .i64 n.2.2.1] := by simp only [mapM, decide_eq_true hlv, cond_true, Ns.m]
      rw [e]
      exact h
    · go_wp2_with fail
      go_meet
      refine ⟨fr, ?_⟩
      have e : (Ns.m (mapM table index n mask)).toArray = #[.int .i64 index, .int .i64 n.2.2.2.2.2.1, .int .i64 0, .int .i64 n.1, .int .i64 n.2.1, .int .i64 n.2.2.1] := by simp only [mapM, decide_eq_false hlv, cond_false, Ns.m]
      rw [e]
      exact bM
  case rest =>
    clear t0 t1 t2 t3 t4 t5 t6 n0 n1 n2 n3 n4 n5 n6 n7 n8 n9 n10 bm2 fm2 fr bM
    obtain ⟨fr, bM⟩ := hcut
    generalize mapM table index n mask = mm at bM hS
    have bMc := bM
    go_upto_region 16 with (first
      | (go_at_call 56; refine (Cp.calls _ u ts hok (ArgsAt.one (hu.below fr.bel))).mono ?_; rintro en W4 ⟨out, R, rfl, hRt, hN4, hB4⟩; obtain ⟨oa, oc, rfl⟩ := own_shape hN4.own; replace bM := bM.below hB4 bM.lt; replace fr := fr.next hB4; obtain ⟨⟨t0, t1, t2, t3, t4, t5, t6⟩, n0, n1, n2, n3, n4, n5, n6, n7, n8, n9, n10⟩ := fr.cells))
    refine (Mq.find hN4 hRt hlen table.2.1).mono ?_
    rintro en W5 ⟨rfl, hB5⟩
    have hN5 := hN4.below hB5
    replace bM := bM.below hB5 bM.lt
    replace fr := fr.next hB5
    clear t0 t1 t2 t3 t4 t5 t6 n0 n1 n2 n3 n4 n5 n6 n7 n8 n9 n10
    obtain ⟨⟨t0, t1, t2, t3, t4, t5, t6⟩, n0, n1, n2, n3, n4, n5, n6, n7, n8, n9, n10⟩ := fr.cells
    have hn0 : w.heap.size + 3 ≤ wc.heap.size := by have := bMc.lt; omega
    have hs5 : wc.heap.size ≤ W5.heap.size := Nat.le_trans hB4.size hB5.size
    have hbm := bMc.lt
    clear bMc hB4 hB5 hN4
    generalize wc.heap.size = nn at hN5 hn0 hs5 hbm
    go_upto_if 80 with fail
    go_cut [15, 16, 17] from 20 (fun o a f17 wx => ∃ g oc L t v M, o = .slice (some ⟨g, 0, none⟩) ((L ++ (t, v) :: M).length : Nat) oc ∧ a = .int .i64 ((L.length : Nat) : Int) ∧ Mq.At w wx nn g oc L t v M sp index mm table n pv Bm)
    case first =>
      have hRl : Kp (R.length = ts.length) := ⟨by rw [← hRt, List.length_map]⟩
      by_cases hf : 0 ≤ ftS ts table.2.1
      · have hd : decide (0 ≤ ftS ts table.2.1) = true := decide_eq_true hf
        simp only [hd, Bool.not_true]
        go_wp2_with fail
        go_meet
        have hRl := hRl.h
        obtain ⟨k, t, hk1, hk2⟩ : ∃ (k : Nat) (t : SPT × Value), (ftS ts table.2.1) = (k : Int) ∧ R[k]? = some t := by
          have := findI_lt (fun t : SPT => decide (t.1 = table.2.1)) ts 0 (by omega)
          have h2 : ftS ts table.2.1 < 0 + ts.length := this
          exact ⟨(ftS ts table.2.1).toNat, R[(ftS ts table.2.1).toNat]'(by omega), by omega, List.getElem?_eq_getElem _⟩
        have hkl := (List.getElem?_eq_some_iff.1 hk2).1
        have hR2 : R = R.take k ++ t :: R.drop (k + 1) := by
          have := List.take_append_drop k R
          rw [List.drop_eq_getElem_cons hkl] at this
          rw [(List.getElem?_eq_some_iff.1 hk2).2] at this
          exact this.symm
        have hL : (R.take k).length = k := by rw [List.length_take]; omega
        obtain ⟨ga, rfl⟩ : ∃ ga, oa = some ⟨ga, 0, none⟩ := by
          rcases hN5.own.2 with ⟨_, h0⟩ | ⟨g, cap, cur, e1, _⟩
          · omega
          · simp only [Value.slice.injEq] at e1
            exact ⟨g, e1.1⟩
        have htm : t.1 ∈ ts := by rw [← hRt]; exact List.mem_map.2 ⟨t, List.mem_of_getElem? hk2, rfl⟩
        have hts : ts = (R.take k).map Prod.fst ++ t.1 :: (R.drop (k + 1)).map Prod.fst := by
          conv => lhs; rw [← hRt, hR2]
          simp
        refine ⟨ga, oc, R.take k, t.1, t.2, R.drop (k + 1), ?_, ?_, ?_⟩
        · rw [show (t.1, t.2) = t from rfl, ← hR2]
        · rw [hL, hk1]
        · refine ⟨?_, fr, bM, hn0, hs5, hbm, of_decide_eq_true (okM_mem hok htm), ?_⟩
          · rw [show (t.1, t.2) = t from rfl, ← hR2]; exact hN5
          · rw [hS.h]
            exact mapT_at hf (by rw [List.length_map, hL]; omega) hts
      · have hf2 : ftS ts table.2.1 < 0 := by omega
        have hd : decide (0 ≤ ftS ts table.2.1) = false := decide_eq_false hf
        have hbO : ∀ b, (Value.slice oa R.length oc).ownBlock = some b → nn ≤ b ∧ b < W5.heap.size := fun b hb => Own.lt hN5.own hb
        obtain ⟨kp, hkp⟩ : ∃ kp, kp = posI (findI (fun t => decide (t.1 > table.2.1)) ts 0) ts.length := ⟨_, rfl⟩
        have hkl : kp ≤ R.length := by
          have := findI_lt (fun t : SPT => decide (t.1 > table.2.1)) ts 0 (by omega)
          rw [hkp, hRl.h]
          unfold posI
          by_cases h : findI (fun t : SPT => decide (t.1 > table.2.1)) ts 0 < 0
          · rw [decide_eq_true h]; exact Nat.le_refl _
          · rw [decide_eq_false h]; show (findI (fun t : SPT => decide (t.1 > table.2.1)) ts 0).toNat ≤ ts.length; omega
        have hins : ∀ W, W5.heap.size < W.heap.size → Nest W nn (.slice oa R.length oc) R → ∀ vb vc, W5.heap.size ≤ vb → HB W vb tyP #[.int .i64 table.2.1, .int .i64 table.2.2.2.2.1, .int .i64 table.2.2.2.2.2.1, .slice none 0 0] →
            Calls Try.prog 60 #[.slice oa R.length oc, .int .i64 kp, .slice (some ⟨vb, 0, none⟩) 1 vc] W fun en w' => ∃ g c, en = .returned (.slice (some ⟨g, 0, none⟩) ((R.take kp ++ ((table.2.1, table.2.2.2.2.1, table.2.2.2.2.2.1, []), .slice none 0 0) :: R.drop kp).length : Nat) c) ∧
              Nest w' nn (.slice (some ⟨g, 0, none⟩) ((R.take kp ++ ((table.2.1, table.2.2.2.2.1, table.2.2.2.2.2.1, []), .slice none 0 0) :: R.drop kp).length : Nat) c) (R.take kp ++ ((table.2.1, table.2.2.2.2.1, table.2.2.2.2.2.1, []), .slice none 0 0) :: R.drop kp) ∧ Ev W w' (fun q => (Value.slice oa R.length oc).ownBlock = some q) := fun W hW hN vb vc hvb hb =>
          Mq.ins (t := (table.2.1, table.2.2.2.2.1, table.2.2.2.2.2.1, [])) hN (by omega) hkl (by have := hRl.h; omega) hb (fun e => by have := hbO vb e; omega) rfl
        have hend : ∀ W W' g c, Below W5.heap.size W5 W → Ev W W' (fun q => (Value.slice oa R.length oc).ownBlock = some q) → Nest W' nn (.slice (some ⟨g, 0, none⟩) ((R.take kp ++ ((table.2.1, table.2.2.2.2.1, table.2.2.2.2.2.1, []), .slice none 0 0) :: R.drop kp).length : Nat) c) (R.take kp ++ ((table.2.1, table.2.2.2.2.1, table.2.2.2.2.2.1, []), .slice none 0 0) :: R.drop kp) →
            Mq.At w W' nn g c (R.take kp) (table.2.1, table.2.2.2.2.1, table.2.2.2.2.2.1, []) (.slice none 0 0) (R.drop kp) sp index mm table n pv Bm := fun W W' g c hB hE hN => by
          have h6 := hB.size
          have h7 := hE.size
          have hbl : Below nn W W' := ev_below_n hE (fun q hq => (hbO q hq).1) (by omega)
          have h8 := fr.next hB
          have h9 := hbm
          refine ⟨hN, ⟨h8.bel.trans (hbl.mono (by have := h8.bel.size; omega)), h8.bT.below hbl (by omega), h8.bN.below hbl (by omega)⟩, (bM.below hB bM.lt).below hbl (by omega), hn0, by omega, h9, by simp [Ns.maps], ?_⟩
          rw [hS.h, mapT_new hf2, ← hkp]
          conv => lhs; rw [← hRt]
          rw [List.map_take, List.map_drop]
        simp only [hd, Bool.not_false]
        obtain ⟨ip, hip⟩ : ∃ ip, ip = findI (fun t => decide (t.1 > table.2.1)) ts 0 := ⟨_, rfl⟩
        have hixp := Mq.ixp hN5 hRt hlen fr.bT
        rw [← hip] at hixp hkp
        clear hip hf hd hf2
        by_cases hneg : ip < 0
        · obtain rfl : kp = R.length := by rw [hkp, hRl.h]; unfold posI; rw [decide_eq_true hneg]; rfl
          clear hkp
          go_wp2_with (first
            | (go_at_call 58; refine hixp.mono ?_; rintro en W6 ⟨rfl, hB6⟩; have hN6 := hN5.below hB6; obtain ⟨⟨t0, t1, t2, t3, t4, t5, t6⟩, n0, n1, n2, n3, n4, n5, n6, n7, n8, n9, n10⟩ := (fr.next hB6).cells)
            | (go_at_call 60; refine (hins (W6.alloc (.cells #[.int .i64 table.2.1, .int .i64 table.2.2.2.2.1, .int .i64 table.2.2.2.2.2.1, .slice none 0 0] tyP)) (by have := hB6.size; simp; omega) (hN6.below ((Below.refl _ W6).alloc (Nat.le_refl _) _)) W6.heap.size 1 hB6.size (HB.new W6 tyP #[.int .i64 table.2.1, .int .i64 table.2.2.2.2.1, .int .i64 table.2.2.2.2.2.1, .slice none 0 0])).mono ?_; rintro en W7 ⟨g, c, rfl, hN7, hE7⟩))
          go_meet
          exact ⟨g, c, _, _, _, _, (by congr 1; simp only [List.length_append, List.length_cons, List.length_take, List.length_drop]; omega), by congr 2; rw [List.length_take]; omega, hend _ _ g c (hB6.alloc hB6.size _) hE7 hN7⟩
        · obtain rfl : ip = (kp : Int) := by rw [hkp]; unfold posI; rw [decide_eq_false hneg]; show ip = (ip.toNat : Int); omega
          clear hkp
          go_wp2_with (first
            | (go_at_call 58; refine hixp.mono ?_; rintro en W6 ⟨rfl, hB6⟩; have hN6 := hN5.below hB6; obtain ⟨⟨t0, t1, t2, t3, t4, t5, t6⟩, n0, n1, n2, n3, n4, n5, n6, n7, n8, n9, n10⟩ := (fr.next hB6).cells)
            | (go_at_call 60; refine (hins (W6.alloc (.cells #[.int .i64 table.2.1, .int .i64 table.2.2.2.2.1, .int .i64 table.2.2.2.2.2.1, .slice none 0 0] tyP)) (by have := hB6.size; simp; omega) (hN6.below ((Below.refl _ W6).alloc (Nat.le_refl _) _)) W6.heap.size 1 hB6.size (HB.new W6 tyP #[.int .i64 table.2.1, .int .i64 table.2.2.2.2.1, .int .i64 table.2.2.2.2.2.1, .slice none 0 0])).mono ?_; rintro en W7 ⟨g, c, rfl, hN7, hE7⟩))
          go_meet
          exact ⟨g, c, _, _, _, _, (by congr 1; simp only [List.length_append, List.length_cons, List.length_take, List.length_drop]; omega), by congr 2; rw [List.length_take]; omega, hend _ _ g c (hB6.alloc hB6.size _) hE7 hN7⟩
    case rest =>
      obtain ⟨g, oc, L, t, v, M, rfl, rfl, hA⟩ := hcut
      clear hN5 hS hu hn hok hRt hn0 hs5 hbm fr bM t0 t1 t2 t3 t4 t5 t6 n0 n1 n2 n3 n4 n5 n6 n7 n8 n9 n10
      have hmem : (t, v) ∈ L ++ (t, v) :: M := by simp
      have hinn := hA.nest.inn _ hmem
      obtain ⟨va, vc, rfl⟩ : ∃ a c, v = .slice a ((Ns.maps t).length : Nat) c := own_shape hinn
      have hcv : wc.cell? ⟨g, L.length * 4 + 3, none⟩ = some (.slice va ((Ns.maps t).length : Nat) vc) := by
        rcases hA.nest.own.2 with ⟨e, _⟩ | ⟨g', cap', cur, e1, _, e3, _, _, _, e7⟩
        · cases e
        simp only [Value.slice.injEq, Option.some.injEq, Addr.mk.injEq] at e1
        obtain ⟨⟨rfl, _⟩, _, rfl⟩ := e1
        refine own_cells (n0 := nn) (cap := oc) (n := (L ++ (t, Value.slice va ((Ns.maps t).length : Nat) vc) :: M).length) (k := 4) e3 e7 ?_
        have := flat_get (f := Ns.p) (k := 4) (fun _ => rfl) (L ++ (t, Value.slice va ((Ns.maps t).length : Nat) vc) :: M) L.length 3 (t, Value.slice va ((Ns.maps t).length : Nat) vc) (by simp) (by omega)
        exact this
      have hci : ∀ (j : Nat) (m : SMp), (Ns.maps t)[j]? = some m → ∃ gv, va = some ⟨gv, 0, none⟩ ∧ wc.cell? ⟨gv, j * 6, none⟩ = some (.int .i64 m.1) := fun j m hm => by
        rcases hinn.2 with ⟨e, h0⟩ | ⟨g', cap', cur, e1, _, e3, _, _, _, e7⟩
        · have h0 : (Ns.maps t).length = 0 := h0
          have := (List.getElem?_eq_some_iff.1 hm).1; omega
        simp only [Value.slice.injEq] at e1
        refine ⟨g', e1.1, own_cells (n0 := nn) (cap := vc) (n := (Ns.maps t).length) (k := 6) e3 e7 ?_⟩
        have := flat_get (f := Ns.m) (k := 6) (fun _ => rfl) (Ns.maps t) j 0 m hm (by omega)
        rw [Nat.add_zero] at this
        exact this
      have hk0 : (0 : Int) ≤ ((L.length : Nat) : Int) := by omega
      have hk1 : ((L.length : Nat) : Int) < (((L ++ (t, Value.slice va ((Ns.maps t).length : Nat) vc) :: M).length : Nat) : Int) := by simp; omega
      have hml := hA.len
      obtain ⟨N, hN⟩ : ∃ N, N = (L ++ (t, Value.slice va ((Ns.maps t).length : Nat) vc) :: M).length := ⟨_, rfl⟩
      obtain ⟨K, hK⟩ : ∃ K, K = L.length := ⟨_, rfl⟩
      obtain ⟨ml, hmlE⟩ : ∃ ml, ml = (Ns.maps t).length := ⟨_, rfl⟩
      have hN' : Kp (N = (L ++ (t, Value.slice va ((Ns.maps t).length : Nat) vc) :: M).length ∧ K = L.length ∧ ml = (Ns.maps t).length) := ⟨hN, hK, hmlE⟩
      rw [← hN, ← hK] at hk1
      rw [← hK] at hk0
      rw [← hK, ← hmlE] at hcv
      rw [← hmlE] at hml
      rw [← hN, ← hK]
      clear hN hK hmlE
      go_upto_region 22 with fail
      go_wp2_with fail
      go_loopw [19] (fun i wr => ∃ j : Nat, i = .int .i64 (j : Int) ∧ j ≤ ml ∧ (∀ q m, q < j → (Ns.maps t)[q]? = some m → m.1 < index) ∧ wr = wc) (fun i _ => ml - (intOf i).toNat)
      case atStart => exact ⟨0, rfl, Nat.zero_le _, fun q m hq => by omega, rfl⟩
      case round =>
        obtain ⟨j, rfl, hj, hlow, rfl⟩ := hrel
        have hj0 : (0 : Int) ≤ (j : Int) := by omega
        by_cases hlt : j < ml
        · obtain ⟨m, hm⟩ : ∃ m, (Ns.maps t)[j]? = some m := ⟨_, List.getElem?_eq_getElem (by have := hN'.h.2.2; omega)⟩
          obtain ⟨gv, rfl, hcm⟩ := hci j m hm
          have hj1 : (j : Int) < (ml : Int) := by omega
          by_cases hmi : m.1 < index
          · have hw1 : IntKind.i64.wrap ((j : Int) + 1) = (j : Int) + 1 := by rw [IntKind.wrap_i64]; omega
            go_wp2_with fail
            go_roundw
            case rel => exact ⟨j + 1, by congr 1, by omega, (fun q m' hq hm' => by
              by_cases hqj : q < j
              · exact hlow q m' hqj hm'
              · have : q = j := by omega
                subst this
                rw [hm] at hm'; cases hm'; exact hmi), trivial⟩
            case measure => simp [intOf]; omega
          · by_cases hme : m.1 = index
            · have hs12 : sp = ([], 12) := by
                rw [hA.sp]
                unfold mapE
                rw [lowB_of index (Ns.maps t) j hlow (fun m' hm' => by rw [hm] at hm'; cases hm'; exact hmi) (by have := hN'.h.2.2; omega)]
                rw [decide_eq_true (by have := hN'.h.2.2; omega), List.getD_eq_getElem?_getD, hm, Option.getD_some, decide_eq_true hme]; rfl
              have hend := hQ wr (.slice none 0 0) [] 12 hs12 (Mq.nil _ _) hA.fr.bel
              clear hQ
              subst hme
              go_wp2_with fail
              exact hend
            · obtain ⟨hN1, hK1, hml1⟩ := hN'.h
              have hlast := Mq.last hA (j := j) (by omega) (lowB_of index (Ns.maps t) j hlow (fun m' hm' => by rw [hm] at hm'; cases hm'; exact hmi) (by omega)) (fun m' hm' => by rw [hm] at hm'; cases hm'; exact hme) Q hQ
              rw [← hN1, ← hK1, ← hml1] at hlast
              have bm0 := hA.bM.cell 0
              have bm1 := hA.bM.cell 1
              have bm2 := hA.bM.cell 2
              have bm3 := hA.bM.cell 3
              have bm4 := hA.bM.cell 4
              have bm5 := hA.bM.cell 5
              have hgB : g ≠ Bm := fun e => by have := (Own.lt hA.nest.own (g := g) rfl).1; have := hA.bm; omega
              have hBg : Bm ≠ g := Ne.symm hgB
              have hgl : g < wr.heap.size := by
                cases hgw : wr.heap[g]? with
                | none => simp [World.cell?, hgw] at hcv
                | some o => exact (Array.getElem?_eq_some_iff.1 hgw).1
              have hca := fun (o : Obj) => (((Below.refl wr.heap.size wr).alloc (Nat.le_refl _) o).cell (p := ⟨g, K * 4 + 3, none⟩) hgl).trans hcv
              clear hgl
              clear hQ hN1 hK1 hml1
              go_upto_region 27 with fail
              go_region_with (first | (go_at_call 61; refine (hlast ((wr.alloc (.cells #[.int .i64 mm.1, .int .i64 mm.2.1, .int .i64 mm.2.2.1, .int .i64 mm.2.2.2.1, .int .i64 mm.2.2.2.2.1, .int .i64 mm.2.2.2.2.2] tyM)).drew) rfl rfl rfl rfl).mono ?_; rintro en w' ⟨va', vc', rfl, q1, q2, q3, q4⟩))
              all_goals go_wp2
              all_goals exact q4
        · obtain ⟨hN1, hK1, hml1⟩ := hN'.h
          have hlast := Mq.last hA (j := j) (by omega) (lowB_of index (Ns.maps t) j hlow (fun m' hm' => by have := (List.getElem?_eq_some_iff.1 hm').1; omega) (by omega)) (fun m' hm' => by have := (List.getElem?_eq_some_iff.1 hm').1; omega) Q hQ
          rw [← hN1, ← hK1, ← hml1] at hlast
          have bm0 := hA.bM.cell 0
          have bm1 := hA.bM.cell 1
          have bm2 := hA.bM.cell 2
          have bm3 := hA.bM.cell 3
          have bm4 := hA.bM.cell 4
          have bm5 := hA.bM.cell 5
          have hgB : g ≠ Bm := fun e => by have := (Own.lt hA.nest.own (g := g) rfl).1; have := hA.bm; omega
          have hBg : Bm ≠ g := Ne.symm hgB
          have hgl : g < wr.heap.size := by
            cases hgw : wr.heap[g]? with
            | none => simp [World.cell?, hgw] at hcv
            | some o => exact (Array.getElem?_eq_some_iff.1 hgw).1
          have hca := fun (o : Obj) => (((Below.refl wr.heap.size wr).alloc (Nat.le_refl _) o).cell (p := ⟨g, K * 4 + 3, none⟩) hgl).trans hcv
          clear hgl
          clear hQ hN1 hK1 hml1
          go_upto_region 27 with fail
          go_region_with (first | (go_at_call 61; refine (hlast ((wr.alloc (.cells #[.int .i64 mm.1, .int .i64 mm.2.1, .int .i64 mm.2.2.1, .int .i64 mm.2.2.2.1, .int .i64 mm.2.2.2.2.1, .int .i64 mm.2.2.2.2.2] tyM)).drew) rfl rfl rfl rfl).mono ?_; rintro en w' ⟨va', vc', rfl, q1, q2, q3, q4⟩))
          all_goals go_wp2
          all_goals exact q4
end Go.Proofs
