/-
  SlotEntries: what it computes. By an AI agent.
-/
import Derived.Test.YtjlcdgjcbienbaaSf
namespace Go.AL
open Go.Proofs
set_option linter.unusedVariables false
set_option linter.unusedSimpArgs false
theorem entOf_nd (c i : Int) (s : SSl) : (entOf c i s).2.2 = snd s := rfl
theorem entL_pw {core : Int} {R : SEn → SEn → Prop} : ∀ {r : List SSl} {i : Nat}, (∀ j k s t, j < k → r[j]? = some s → r[k]? = some t → empB s = false → empB t = false → R (entOf core ((i + j : Nat) : Int) s) (entOf core ((i + k : Nat) : Int) t)) → (entL core r i).Pairwise R
  | [], i, h => .nil
  | s :: r, i, h => by
    have ih := entL_pw (core := core) (R := R) (r := r) (i := i + 1) (fun j k a b hjk ha hb ea eb => by
      have := h (j + 1) (k + 1) a b (by omega) (by simpa using ha) (by simpa using hb) ea eb
      rwa [show i + (j + 1) = i + 1 + j by omega, show i + (k + 1) = i + 1 + k by omega] at this)
    simp only [entL]
    cases he : empB s
    · refine List.pairwise_cons.2 ⟨fun e hm => ?_, ih⟩
      obtain ⟨j, t, g1, g2, rfl⟩ := entL_mem hm
      have := h 0 (j + 1) s t (by omega) rfl (by simpa using g1) he g2
      rwa [Nat.add_zero, show i + (j + 1) = i + 1 + j by omega] at this
    · exact ih
theorem ltE_less {a b : SEn} (h : ltE b a = false) (hne : eid a ≠ eid b) : lessI (eid a, eid b) = true := by
  have := less_ltE b a
  rw [h] at this
  exact less_total this (fun e => hne e.symm)
theorem entS_vg {steps : List SSt} {locks ops : List Int} {c : Int} (hc : 0 ≤ c ∧ c < 32) : Vg (entS (slotsS (steps, locks, ops), c)) := by
  have hmem : ∀ e ∈ entS (slotsS (steps, locks, ops), c), ∃ j s, (slotsS (steps, locks, ops))[j]? = some s ∧ empB s = false ∧ e = entOf c ((j : Nat) : Int) s ∧ ∃ f ∈ forest steps, f.1 = 0 ∧ f.2.1 = (j : Int) ∧ snd s = f.2.2 := fun e he => by
    obtain ⟨j, s, g1, g2, g3⟩ := entL_mem (entS_mem.1 he)
    rw [Nat.zero_add] at g3
    rcases (made steps locks ops j s g1).src with ⟨h, _⟩ | ⟨_, f, hf, f1, f2, f3⟩
    · rw [g2] at h; cases h
    · exact ⟨j, s, g1, g2, g3, f, hf, f1, f2, f3⟩
  have hv := (forest_vf steps).1
  have hgs := slots_gs steps locks ops
  have hid : (entS (slotsS (steps, locks, ops), c)).Pairwise (fun a b => eid a ≠ eid b) :=
    ((perm_srtB (lt := ltE) (entL c (slotsS (steps, locks, ops)) 0)).symm.pairwise_iff (fun {a b} h e => h e.symm)).1 (entL_pw fun j k s t hjk hs ht es et e => by
      have := hgs.uq j k s t hs ht es e
      omega)
  have hsl : (entS (slotsS (steps, locks, ops), c)).Pairwise (fun a b => ¬ (a.1 = b.1 ∧ a.2.1 = b.2.1)) :=
    ((perm_srtB (lt := ltE) (entL c (slotsS (steps, locks, ops)) 0)).symm.pairwise_iff (fun {a b} h e => h ⟨e.1.symm, e.2.symm⟩)).1 (entL_pw fun j k s t hjk hs ht es et e => by
      have : (((0 + j : Nat) : Int)) = ((0 + k : Nat) : Int) := e.2
      omega)
  refine ⟨fun e he => ?_, fun e he => ?_, ?_, hsl, ?_, fun p hp e he k hk => ?_⟩
  · obtain ⟨j, s, _, _, rfl, f, hf, _, _, f3⟩ := hmem e he
    rw [entOf_nd, f3]; exact hv.node f hf
  · obtain ⟨j, s, g1, _, rfl, f, hf, _, _, f3⟩ := hmem e he
    have := (List.getElem?_eq_some_iff.1 g1).1
    rw [slotsS_len] at this
    simp only [csB, Bool.and_eq_true, decide_eq_true_eq]
    show 0 ≤ c ∧ c < 32 ∧ 0 ≤ ((j : Nat) : Int) ∧ ((j : Nat) : Int) < 64
    omega
  · exact ((srt_srtB ordE (entL c (slotsS (steps, locks, ops)) 0)).and hid).imp fun {a b} h => ltE_less h.1 h.2
  · refine List.Pairwise.imp_of_mem (R := fun _ _ => True) (fun {a b} ha hb _ => ?_) (List.pairwise_of_forall fun _ _ => trivial)
    obtain ⟨j, s, _, _, rfl, f, hf, _, _, f3⟩ := hmem a ha
    obtain ⟨j', s', _, _, rfl, f', hf', _, _, f3'⟩ := hmem b hb
    have := hv.coex f hf f' hf'
    show coexB (ncap (snd s), ncap (snd s')) = true
    rw [f3, f3']; exact this
  · obtain ⟨j, s, _, _, rfl, f, hf, _, _, f3⟩ := hmem p hp
    obtain ⟨j', s', _, _, rfl, f', hf', _, _, f3'⟩ := hmem e he
    have hk : (npath (snd s'))[k]? = some (nid (snd s)) := hk
    show F_fabv (snd s, snd s', ((k : Nat) : Int)) = true
    rw [f3, f3'] at hk ⊢
    exact (fabv_iff f.2.2 f'.2.2 k).2 (hv.anc f hf f' hf' k hk)
theorem entS_at {l : List SSl} {c : Int} {i : Nat} {s : SSl} (hs : l[i]? = some s) (he : empB s = false) : ∃ k : Nat, atE (entS (l, c)) c ((i : Nat) : Int) = ((k : Nat) : Int) ∧ (entS (l, c))[k]? = some (entOf c ((i : Nat) : Int) s) := by
  have hm : ∀ {r : List SSl} {b j : Nat}, r[j]? = some s → entOf c ((b + j : Nat) : Int) s ∈ entL c r b := by
    intro r
    induction r with
    | nil => intro b j h; simp at h
    | cons t r ih =>
      intro b j h
      simp only [entL]
      cases j with
      | zero =>
        simp at h; subst h
        rw [he]; simp
      | succ j =>
        have := ih (b := b + 1) (j := j) (by simpa using h)
        rw [show b + 1 + j = b + (j + 1) by omega] at this
        cases empB t
        · exact List.mem_cons_of_mem _ this
        · exact this
  have h1 : entOf c ((i : Nat) : Int) s ∈ entS (l, c) := entS_mem.2 (by have := hm (b := 0) hs; rwa [Nat.zero_add] at this)
  have h2 : 0 ≤ atE (entS (l, c)) c ((i : Nat) : Int) := by
    rcases findI_ge (p := fun e : SEn => decide (e.1 = c) && decide (e.2.1 = ((i : Nat) : Int))) (l := entS (l, c)) (k := 0) (by omega) with h | h
    · exact h
    · have := (findI_none (by omega)).2 h _ h1
      simp [entOf] at this
  obtain ⟨k, x, e1, e2, e3, _⟩ := findI_some (by omega) h2
  refine ⟨k, by rw [← Int.zero_add ((k : Nat) : Int)]; exact e1, ?_⟩
  rw [e2]
  obtain ⟨j, t, g1, g2, rfl⟩ := entL_mem (entS_mem.1 (List.mem_of_getElem? e2))
  have e4 : ((0 + j : Nat) : Int) = ((i : Nat) : Int) := of_decide_eq_true (Bool.and_eq_true_iff.1 e3).2
  have hj : j = i := by clear e1 e2; omega
  subst hj
  rw [hs] at g1
  cases g1
  rw [Nat.zero_add]
noncomputable def C_senx : Cfg := ⟨Try.prog, [E_slots, E_place, E_place, E_csl, E_ents, E_remp, E_rat, E_rat, E_snode, E_rvfo, E_awake], pmT [(11, ([(0, []), (1, []), (2, []), (3, []), (4, []), (5, []), (6, []), (7, []), (8, []), (9, []), (10, []), (11, []), (12, []), (13, []), (14, []), (15, [])], [(42, 57)]))], 69, [], []⟩
theorem es_senx : EsOk Try.prog [E_slots, E_place, E_place, E_csl, E_ents, E_remp, E_rat, E_rat, E_snode, E_rvfo, E_awake] [] := es_cons E_slots_ok (es_cons E_place_ok (es_cons E_place_ok (es_cons E_csl_ok (es_cons E_ents_ok (es_cons E_remp_ok (es_cons E_rat_ok (es_cons E_rat_ok (es_cons E_snode_ok (es_cons E_rvfo_ok (es_cons E_awake_ok (es_nil)))))))))))
def Lt_senx : Nat → LD := ldT [(0, ⟨[.list 9 999 33 15 tSSl, .c 10 (.int .i64), .list 11 998 74 13 tSEn, .c 12 (.int .i64), .c 13 (.int .i64)], [], 0⟩)]
noncomputable def M_senx (f : Nat) (a : (List (SSt)) × (List (Int)) × (List (Int)) × Int) : Option (Bool) := (runX (C_senx) Lt_senx (Kret Try.prog [.tmp 8] [.v (.bool)]) f [.code (bodyOf Try.f11)] (initX [.rd tSSt, .rd [.int .i64], .rd [.int .i64], .c (.int .i64)] a) : Option (ResT [.v (.bool)]))
noncomputable def L_senx_0 (f : Nat) (x : (List (SSl)) × Int × (List (SEn)) × Int × Int) : Option (Bool) := (runX (C_senx) Lt_senx (Kret Try.prog [.tmp 8] [.v (.bool)]) f (headOf Try.f11 0) ((Lt_senx 0).mk' x) : Option (ResT [.v (.bool)]))
theorem M_senx_eq (f : Nat) (steps : List (SSt)) (locks : List (Int)) (ops : List (Int)) (core : Int) : M_senx (f + 1) (steps, locks, ops, core) =
    bif okSl (slotsS (steps, locks, ops)) then bif entP (slotsS (steps, locks, ops), place (core, 32)) then L_senx_0 f (slotsS (steps, locks, ops), place (core, 32), entS (slotsS (steps, locks, ops), place (core, 32)), 0, 0) else none else none := by kernel_rfl
theorem L_senx_0_eq (f : Nat) (l : List (SSl)) (c : Int) (x : List (SEn)) (n : Int) (i : Int) : L_senx_0 (f + 1) (l, c, x, n, i) =
    bif decide (i < (↑l.length : Int)) then bif decide (0 ≤ i) && decide (i < (↑l.length : Int)) then bif empB (l.getD i.toNat (0, 0, 0, [], 0, 0, 0, 0, 0, 0, false, 0, 0, 0, 0)) then L_senx_0 f (l, c, x, n, IntKind.i64.wrap (i + 1)) else bif len40n x then bif decide (atE x c i < 0) then some false else bif decide (0 ≤ atE x c i) && decide (atE x c i < (↑x.length : Int)) then bif decide (0 ≤ i) && decide (i < (↑l.length : Int)) then bif len40n (x.getD (atE x c i).toNat (0, 0, 0, 0, 0, [], 0, 0, 0, 0, 0, 0, false)).2.2.2.2.2.1 then bif !decide ((x.getD (atE x c i).toNat (0, 0, 0, 0, 0, [], 0, 0, 0, 0, 0, 0, false)).2.2 = ((l.getD i.toNat (0, 0, 0, [], 0, 0, 0, 0, 0, 0, false, 0, 0, 0, 0)).1, (l.getD i.toNat (0, 0, 0, [], 0, 0, 0, 0, 0, 0, false, 0, 0, 0, 0)).2.1, (l.getD i.toNat (0, 0, 0, [], 0, 0, 0, 0, 0, 0, false, 0, 0, 0, 0)).2.2.1, (l.getD i.toNat (0, 0, 0, [], 0, 0, 0, 0, 0, 0, false, 0, 0, 0, 0)).2.2.2.1, (l.getD i.toNat (0, 0, 0, [], 0, 0, 0, 0, 0, 0, false, 0, 0, 0, 0)).2.2.2.2.1, (l.getD i.toNat (0, 0, 0, [], 0, 0, 0, 0, 0, 0, false, 0, 0, 0, 0)).2.2.2.2.2.1, (l.getD i.toNat (0, 0, 0, [], 0, 0, 0, 0, 0, 0, false, 0, 0, 0, 0)).2.2.2.2.2.2.1, (l.getD i.toNat (0, 0, 0, [], 0, 0, 0, 0, 0, 0, false, 0, 0, 0, 0)).2.2.2.2.2.2.2.1, (l.getD i.toNat (0, 0, 0, [], 0, 0, 0, 0, 0, 0, false, 0, 0, 0, 0)).2.2.2.2.2.2.2.2.1, (l.getD i.toNat (0, 0, 0, [], 0, 0, 0, 0, 0, 0, false, 0, 0, 0, 0)).2.2.2.2.2.2.2.2.2.1, (l.getD i.toNat (0, 0, 0, [], 0, 0, 0, 0, 0, 0, false, 0, 0, 0, 0)).2.2.2.2.2.2.2.2.2.2.1)) then some false else L_senx_0 f (l, c, x, IntKind.i64.wrap (n + 1), IntKind.i64.wrap (i + 1)) else none else none else none else none else none else bif n == (↑x.length : Int) then bif okF x then bif rvL x [] x then some true else some false else none else some false := by kernel_rfl
noncomputable def F_senx_0 : List (SSl) → ((List (SSl)) × Int × (List (SEn)) × Int × Nat) → Bool
  | [], (l, c, x, n, i) => bif n == (↑x.length : Int) then bif rvL x [] x then true else false else false
  | uu :: rest, (l, c, x, n, i) => bif empB uu then F_senx_0 rest (l, c, x, n, i + 1) else bif decide (atE x c (↑i : Int) < 0) then false else bif !decide ((x.getD (atE x c (↑i : Int)).toNat (0, 0, 0, 0, 0, [], 0, 0, 0, 0, 0, 0, false)).2.2 = (uu.1, uu.2.1, uu.2.2.1, uu.2.2.2.1, uu.2.2.2.2.1, uu.2.2.2.2.2.1, uu.2.2.2.2.2.2.1, uu.2.2.2.2.2.2.2.1, uu.2.2.2.2.2.2.2.2.1, uu.2.2.2.2.2.2.2.2.2.1, uu.2.2.2.2.2.2.2.2.2.2.1)) then false else F_senx_0 rest (l, c, x, IntKind.i64.wrap (n + 1), i + 1)
noncomputable def P_senx_0 : List (SSl) → ((List (SSl)) × Int × (List (SEn)) × Int × Nat) → Bool
  | [], (l, c, x, n, i) => bif n == (↑x.length : Int) then okF x else true
  | uu :: rest, (l, c, x, n, i) => bif empB uu then P_senx_0 rest (l, c, x, n, i + 1) else len40n x && bif decide (atE x c (↑i : Int) < 0) then true else decide (0 ≤ atE x c (↑i : Int)) && decide (atE x c (↑i : Int) < (↑x.length : Int)) && (len40n (x.getD (atE x c (↑i : Int)).toNat (0, 0, 0, 0, 0, [], 0, 0, 0, 0, 0, 0, false)).2.2.2.2.2.1 && bif !decide ((x.getD (atE x c (↑i : Int)).toNat (0, 0, 0, 0, 0, [], 0, 0, 0, 0, 0, 0, false)).2.2 = (uu.1, uu.2.1, uu.2.2.1, uu.2.2.2.1, uu.2.2.2.2.1, uu.2.2.2.2.2.1, uu.2.2.2.2.2.2.1, uu.2.2.2.2.2.2.2.1, uu.2.2.2.2.2.2.2.2.1, uu.2.2.2.2.2.2.2.2.2.1, uu.2.2.2.2.2.2.2.2.2.2.1)) then true else P_senx_0 rest (l, c, x, IntKind.i64.wrap (n + 1), i + 1))
theorem A_senx_0 : ∀ (rest : List (SSl)) (l : List (SSl)) (c : Int) (x : List (SEn)) (n : Int) (i : Nat) (hd : l.drop i = rest) (hl : l.length ≤ 1099511627776), Rns (fun f => L_senx_0 f (l, c, x, n, ((i : Nat) : Int))) (P_senx_0 rest (l, c, x, n, i)) (F_senx_0 rest (l, c, x, n, i))
  | [], l, c, x, n, i, hd, hl => ev_step (T := fun f => bif n == (↑x.length : Int) then bif okF x then bif rvL x [] x then some true else some false else none else some false) (fun f => (L_senx_0_eq f _ _ _ _ _).trans (by simp only [ge_dec (drop_ge hd), ge0, Bool.and_self, Bool.true_and, cond_true, cond_false, List.length_set] <;> rfl)) (ev_bif (ev_chk1 (ev_bift ev_some ev_some)) ev_some)
  | uu :: rest, l, c, x, n, i, hd, hl => ev_step (T := fun f => bif empB uu then L_senx_0 f (l, c, x, n, (↑(i + 1) : Int)) else bif len40n x then bif decide (atE x c (↑i : Int) < 0) then some false else bif decide (0 ≤ atE x c (↑i : Int)) && decide (atE x c (↑i : Int) < (↑x.length : Int)) then bif len40n (x.getD (atE x c (↑i : Int)).toNat (0, 0, 0, 0, 0, [], 0, 0, 0, 0, 0, 0, false)).2.2.2.2.2.1 then bif !decide ((x.getD (atE x c (↑i : Int)).toNat (0, 0, 0, 0, 0, [], 0, 0, 0, 0, 0, 0, false)).2.2 = (uu.1, uu.2.1, uu.2.2.1, uu.2.2.2.1, uu.2.2.2.2.1, uu.2.2.2.2.2.1, uu.2.2.2.2.2.2.1, uu.2.2.2.2.2.2.2.1, uu.2.2.2.2.2.2.2.2.1, uu.2.2.2.2.2.2.2.2.2.1, uu.2.2.2.2.2.2.2.2.2.2.1)) then some false else L_senx_0 f (l, c, x, IntKind.i64.wrap (n + 1), (↑(i + 1) : Int)) else none else none else none) (fun f => (L_senx_0_eq f _ _ _ _ _).trans (by simp only [lt_dec (drop_lt hd), drop_get hd, wrap_succ (drop_lt hd) hl, getD_set (drop_lt hd), ge0, Bool.and_self, Bool.true_and, cond_true, cond_false, List.length_set] <;> rfl)) (ev_bif (A_senx_0 rest _ _ _ _ _ (by first | exact drop_succ hd | exact drop_set hd | exact drop_setS (drop_set hd)) (by first | exact hl | simpa using hl)) (ev_chk (ev_bif ev_some (ev_chk (ev_chk (ev_bif ev_some (A_senx_0 rest _ _ _ _ _ (by first | exact drop_succ hd | exact drop_set hd | exact drop_setS (drop_set hd)) (by first | exact hl | simpa using hl))))))))
noncomputable def F_senx : ((List (SSt)) × (List (Int)) × (List (Int)) × Int) → Bool
  | (steps, locks, ops, core) => F_senx_0 (slotsS (steps, locks, ops)) (slotsS (steps, locks, ops), place (core, 32), entS (slotsS (steps, locks, ops), place (core, 32)), 0, 0)
noncomputable def P_senx : ((List (SSt)) × (List (Int)) × (List (Int)) × Int) → Bool
  | (steps, locks, ops, core) => okSl (slotsS (steps, locks, ops)) && (entP (slotsS (steps, locks, ops), place (core, 32)) && (decide ((slotsS (steps, locks, ops)).length ≤ 1099511627776) && P_senx_0 (slotsS (steps, locks, ops)) (slotsS (steps, locks, ops), place (core, 32), entS (slotsS (steps, locks, ops), place (core, 32)), 0, 0)))
theorem senx_auto : ∀ a : (List (SSt)) × (List (Int)) × (List (Int)) × Int, Rns (fun f => M_senx f a) (P_senx a) (F_senx a)
  | (steps, locks, ops, core) => ev_step (fun f => M_senx_eq f _ _ _ _) (ev_chk (ev_chk (ev_and fun hh => A_senx_0 _ _ _ _ _ _ rfl (of_decide_eq_true hh))))
theorem senx_0 {l : List SSl} {c : Int} {x : List SEn} (hx : x = entS (l, c)) (hl : l.length ≤ 1000) (hok : okF x = true) (hv : rvL x [] x = true) (hlen : x.length = (entL c l 0).length) : ∀ (r p : List SSl) (n : Nat), l = p ++ r → n + (entL c r p.length).length = x.length →
    F_senx_0 r (l, c, x, ((n : Nat) : Int), p.length) = true ∧ P_senx_0 r (l, c, x, ((n : Nat) : Int), p.length) = true
  | [], p, n, hp, hn => by
    simp only [entL, List.length_nil, Nat.add_zero] at hn
    have e : (((n : Nat) : Int) == ((x.length : Nat) : Int)) = true := by rw [hn]; simp
    simp only [F_senx_0, P_senx_0, e, hv, hok]
    exact ⟨rfl, rfl⟩
  | u :: r, p, n, hp, hn => by
    have hp2 : l = (p ++ [u]) ++ r := by simpa using hp
    have el : (p ++ [u]).length = p.length + 1 := by simp
    have hxl : x.length ≤ 1000 := by rw [hlen]; have := entL_len c l 0; omega
    simp only [entL] at hn
    simp only [F_senx_0, P_senx_0]
    cases he : empB u
    · rw [he] at hn
      simp only [cond_false, List.length_cons] at hn
      obtain ⟨i1, i2⟩ := senx_0 hx hl hok hv hlen r (p ++ [u]) (n + 1) hp2 (by rw [el]; omega)
      rw [el] at i1 i2
      have hu : l[p.length]? = some u := by rw [hp]; simp
      obtain ⟨k, k1, k2⟩ := entS_at (c := c) hu he
      rw [← hx] at k1 k2
      have hkl := (List.getElem?_eq_some_iff.1 k2).1
      have gk : x.getD ((k : Nat) : Int).toNat (0, 0, 0, 0, 0, [], 0, 0, 0, 0, 0, 0, false) = entOf c ((p.length : Nat) : Int) u := by
        rw [Int.toNat_natCast, List.getD_eq_getElem?_getD, k2]; rfl
      have w : IntKind.i64.wrap (((n : Nat) : Int) + 1) = ((n + 1 : Nat) : Int) := by rw [i64_id (by omega) (by omega)]; rfl
      have e1 : decide ((entOf c ((p.length : Nat) : Int) u).2.2 = (u.1, u.2.1, u.2.2.1, u.2.2.2.1, u.2.2.2.2.1, u.2.2.2.2.2.1, u.2.2.2.2.2.2.1, u.2.2.2.2.2.2.2.1, u.2.2.2.2.2.2.2.2.1, u.2.2.2.2.2.2.2.2.2.1, u.2.2.2.2.2.2.2.2.2.2.1)) = true := decide_eq_true rfl
      have e2 : len40n (entOf c ((p.length : Nat) : Int) u).2.2.2.2.2.1 = true := okF_path hok _ (List.mem_of_getElem? k2)
      have e3 : len40n x = true := decide_eq_true (by omega)
      have d1 : decide (((k : Nat) : Int) < 0) = false := decide_eq_false (by omega)
      have d2 : decide (((k : Nat) : Int) < ((x.length : Nat) : Int)) = true := decide_eq_true (by omega)
      simp only [k1, gk, w, e1, e2, e3, d1, d2, i1, i2, ge0]
      exact ⟨rfl, rfl⟩
    · rw [he] at hn
      simp only [cond_true] at hn
      obtain ⟨i1, i2⟩ := senx_0 hx hl hok hv hlen r (p ++ [u]) n hp2 (by rw [el]; exact hn)
      rw [el] at i1 i2
      simp only [cond_true, i1, i2]
      exact ⟨trivial, trivial⟩
theorem senx_both : ∀ a : List SSt × List Int × List Int × Int, P_senx a = true ∧ F_senx a = true := by
  rintro ⟨steps, locks, ops, core⟩
  have hp := place_range core (s := 32) (by omega)
  have hl := slotsS_len (steps, locks, ops)
  have hP : entP (slotsS (steps, locks, ops), place (core, 32)) = true := Bool.and_eq_true_iff.2 ⟨slots_ok _, decide_eq_true (by show (slotsS (steps, locks, ops)).length ≤ _; omega)⟩
  have hE := entS_okE hP
  have hlen : (entS (slotsS (steps, locks, ops), place (core, 32))).length ≤ 12 := by
    have := entL_len (place (core, 32)) (slotsS (steps, locks, ops)) 0
    rw [entS_len]; omega
  have hok : okF (entS (slotsS (steps, locks, ops), place (core, 32))) = true := Bool.and_eq_true_iff.2 ⟨decide_eq_true (by omega), hE⟩
  have hv := (rvL_vg _).2 (entS_vg (steps := steps) (locks := locks) (ops := ops) hp)
  obtain ⟨i1, i2⟩ := senx_0 rfl (by omega) hok hv (entS_len _ _) (slotsS (steps, locks, ops)) [] 0 rfl (by rw [entS_len, Nat.zero_add]; rfl)
  simp only [List.length_nil] at i1 i2
  simp only [P_senx, F_senx, slots_ok, hP]
  exact ⟨by simp only [Bool.true_and, Bool.and_eq_true]; exact ⟨decide_eq_true (by omega), i2⟩, i1⟩
theorem senx_true : ∀ a : List SSt × List Int × List Int × Int, ∃ f, M_senx f a = some true := fun a => by
  have h := senx_auto a (senx_both a).1
  rw [(senx_both a).2] at h; exact h
end Go.AL
