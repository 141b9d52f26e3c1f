/-
  Contracts of forest.Valid, Prune, Evict, Free and of the reference's. By an AI agent.
-/
import Derived.Test.YteppokgkagjklaaH2
namespace Go.AL
open Go.Proofs
set_option linter.unusedVariables false
set_option linter.unusedSimpArgs false
noncomputable def C_frel : Cfg := ⟨Try.prog, [E_sidx, E_seq, E_crng, E_cont, E_sob], pmT [(4, ([(0, []), (1, []), (2, []), (3, []), (4, []), (5, []), (6, []), (7, []), (8, []), (9, []), (11, []), (12, []), (10, []), (13, []), (14, []), (15, []), (16, []), (17, []), (18, []), (19, []), (20, []), (21, []), (22, []), (23, []), (24, []), (25, []), (26, []), (27, []), (28, []), (29, [])], [(4, 4), (13, 41)]))], 42, [], []⟩
theorem es_frel : EsOk Try.prog [E_sidx, E_seq, E_crng, E_cont, E_sob] [] := es_cons E_sidx_ok (es_cons E_seq_ok (es_cons E_crng_ok (es_cons E_cont_ok (es_cons E_sob_ok (es_nil)))))
def Lt_frel : Nat → LD := ldT []
noncomputable def M_frel (f : Nat) (a : SNd × SNd) : Option (Bool) := (runX (C_frel) Lt_frel (Kret Try.prog [.tmp 4] [.v (.bool)]) f [.code (bodyOf Try.f52)] (initX [.g tSNd, .g tSNd] a) : Option (ResT [.v (.bool)]))
theorem M_frel_eq (f : Nat) (p : SNd) (n : SNd) : M_frel (f + 1) (p, n) =
    bif len40n n.2.2.2.1 then bif decide (idxI n.2.2.2.1 (p.1, p.2.1, p.2.2.1) 0 < 0) then some true else bif decide (0 ≤ idxI n.2.2.2.1 (p.1, p.2.1, p.2.2.1) 0) && decide (idxI n.2.2.2.1 (p.1, p.2.1, p.2.2.1) 0 ≤ (↑(List.length n.2.2.2.1) : Int)) then bif len40n p.2.2.2.1 then bif decide (p.2.2.2.1 = List.take (idxI n.2.2.2.1 (p.1, p.2.1, p.2.2.1) 0).toNat n.2.2.2.1) then bif contains ((p.2.2.2.2.2.1, p.2.2.2.2.2.2.1), n.2.2.2.2.2.1, n.2.2.2.2.2.2.1) then bif p.2.2.2.2.1 == 1 then some true else some (sobB (p.2.2.2.2, n.2.2.2.2)) else some false else some false else none else none else none := by kernel_rfl
noncomputable def F_frel : (SNd × SNd) → Bool
  | (p, n) => bif decide (idxI n.2.2.2.1 (p.1, p.2.1, p.2.2.1) 0 < 0) then true else bif decide (p.2.2.2.1 = List.take (idxI n.2.2.2.1 (p.1, p.2.1, p.2.2.1) 0).toNat n.2.2.2.1) then bif contains ((p.2.2.2.2.2.1, p.2.2.2.2.2.2.1), n.2.2.2.2.2.1, n.2.2.2.2.2.2.1) then bif p.2.2.2.2.1 == 1 then true else sobB (p.2.2.2.2, n.2.2.2.2) else false else false
noncomputable def P_frel : (SNd × SNd) → Bool
  | (p, n) => len40n n.2.2.2.1 && bif decide (idxI n.2.2.2.1 (p.1, p.2.1, p.2.2.1) 0 < 0) then true else decide (0 ≤ idxI n.2.2.2.1 (p.1, p.2.1, p.2.2.1) 0) && decide (idxI n.2.2.2.1 (p.1, p.2.1, p.2.2.1) 0 ≤ (↑(List.length n.2.2.2.1) : Int)) && len40n p.2.2.2.1
theorem frel_auto : ∀ a : SNd × SNd, Rns (fun f => M_frel f a) (P_frel a) (F_frel a)
  | (p, n) => ev_step (fun f => M_frel_eq f _ _) (ev_chk (ev_bif ev_some (ev_chk (ev_chk1 (ev_bift (ev_bift (ev_bift ev_some ev_some) ev_some) ev_some)))))
theorem idxI_range {α : Type} [DecidableEq α] (x : α) : ∀ (l : List α) (k : Int), idxI l x k = -1 ∨ (k ≤ idxI l x k ∧ idxI l x k < k + l.length)
  | [], k => .inl rfl
  | u :: l, k => by
    have ih := idxI_range x l (k + 1)
    simp only [idxI, List.length_cons]
    cases decide (u = x)
    · simp only [cond_false]; omega
    · simp only [cond_true]; omega
def relPre (a : SNd × SNd) : Bool := len40n (npath a.1) && len40n (npath a.2)
theorem frel_P : ∀ a, relPre a = true → P_frel a = true := by
  rintro ⟨p, n⟩ h
  simp only [relPre, Bool.and_eq_true] at h
  have h1 : len40n p.2.2.2.1 = true := h.1
  have h2 : len40n n.2.2.2.1 = true := h.2
  have hr := idxI_range (p.1, p.2.1, p.2.2.1) n.2.2.2.1 0
  simp only [P_frel, h1, h2, Bool.true_and, Bool.and_true]
  by_cases h0 : idxI n.2.2.2.1 (p.1, p.2.1, p.2.2.1) 0 < 0
  · rw [decide_eq_true h0]; rfl
  · rw [decide_eq_false h0, cond_false, Bool.and_eq_true]; exact ⟨decide_eq_true (by omega), decide_eq_true (by omega)⟩
theorem frel_F : ∀ a, relPre a = true → F_frel a = F_frel a := fun _ _ => rfl
theorem frel_run : ∀ a, (relPre : SNd × SNd → Bool) a = true → ∃ f, M_frel f a = some ((F_frel : SNd × SNd → Bool) a) := fun a h => by have h1 := frel_auto a (frel_P a h); rw [frel_F a h] at h1; exact h1
noncomputable def E_frel : Ent := ⟨52, [.g tSNd, .g tSNd], [.v (.bool)], fun a => (relPre : SNd × SNd → Bool) a, fun a => (F_frel : SNd × SNd → Bool) a⟩
theorem E_frel_ok : E_frel.Ok Try.prog := fun a hp vs hv => (frel_run a hp).elim fun f h => fnX_ok (C := C_frel) (Lt := Lt_frel) (fn := Try.f52) (rs := [.tmp 4]) [.g tSNd, .g tSNd] [.v (.bool)] mixed es_frel Try.func52 rfl rfl rfl (by kernel_rfl) (by kernel_rfl) f h vs hv
noncomputable def C_fabv : Cfg := ⟨Try.prog, [E_sids, E_rrng, E_rcont, E_rsob], pmT [(1, ([(0, []), (1, []), (2, []), (3, []), (4, []), (5, []), (6, []), (7, []), (8, []), (9, []), (11, []), (12, []), (10, []), (13, []), (14, []), (15, []), (16, []), (17, []), (18, []), (19, []), (20, []), (21, []), (22, []), (23, []), (24, []), (25, []), (26, []), (27, []), (28, []), (29, [])], [(6, 35)]))], 36, [], []⟩
theorem es_fabv : EsOk Try.prog [E_sids, E_rrng, E_rcont, E_rsob] [] := es_cons E_sids_ok (es_cons E_rrng_ok (es_cons E_rcont_ok (es_cons E_rsob_ok (es_nil))))
def Lt_fabv : Nat → LD := ldT []
noncomputable def M_fabv (f : Nat) (a : SNd × SNd × Int) : Option (Bool) := (runX (C_fabv) Lt_fabv (Kret Try.prog [.tmp 6] [.v (.bool)]) f [.code (bodyOf Try.f57)] (initX [.g tSNd, .g tSNd, .c (.int .i64)] a) : Option (ResT [.v (.bool)]))
theorem M_fabv_eq (f : Nat) (p : SNd) (n : SNd) (k : Int) : M_fabv (f + 1) (p, n, k) =
    bif decide (0 ≤ k) && decide (k ≤ (↑(List.length n.2.2.2.1) : Int)) then bif len40n p.2.2.2.1 then bif decide (p.2.2.2.1 = List.take k.toNat n.2.2.2.1) then bif contains ((p.2.2.2.2.2.1, p.2.2.2.2.2.2.1), n.2.2.2.2.2.1, n.2.2.2.2.2.2.1) then bif p.2.2.2.2.1 == 1 then some true else some (sobB (p.2.2.2.2, n.2.2.2.2)) else some false else some false else none else none := by kernel_rfl
noncomputable def F_fabv : (SNd × SNd × Int) → Bool
  | (p, n, k) => bif decide (p.2.2.2.1 = List.take k.toNat n.2.2.2.1) then bif contains ((p.2.2.2.2.2.1, p.2.2.2.2.2.2.1), n.2.2.2.2.2.1, n.2.2.2.2.2.2.1) then bif p.2.2.2.2.1 == 1 then true else sobB (p.2.2.2.2, n.2.2.2.2) else false else false
noncomputable def P_fabv : (SNd × SNd × Int) → Bool
  | (p, n, k) => decide (0 ≤ k) && decide (k ≤ (↑(List.length n.2.2.2.1) : Int)) && len40n p.2.2.2.1
theorem fabv_auto : ∀ a : SNd × SNd × Int, Rns (fun f => M_fabv f a) (P_fabv a) (F_fabv a)
  | (p, n, k) => ev_step (fun f => M_fabv_eq f _ _ _) (ev_chk (ev_chk1 (ev_bift (ev_bift (ev_bift ev_some ev_some) ev_some) ev_some)))
def abvPre (a : SNd × SNd × Int) : Bool := decide (0 ≤ a.2.2) && decide (a.2.2 ≤ (((npath a.2.1).length : Nat) : Int)) && len40n (npath a.1)
theorem fabv_P : ∀ a, abvPre a = true → P_fabv a = true := fun a h => h
theorem fabv_F : ∀ a, abvPre a = true → F_fabv a = F_fabv a := fun _ _ => rfl
theorem fabv_run : ∀ a, (abvPre : SNd × SNd × Int → Bool) a = true → ∃ f, M_fabv f a = some ((F_fabv : SNd × SNd × Int → Bool) a) := fun a h => by have h1 := fabv_auto a (fabv_P a h); rw [fabv_F a h] at h1; exact h1
noncomputable def E_fabv : Ent := ⟨57, [.g tSNd, .g tSNd, .c (.int .i64)], [.v (.bool)], fun a => (abvPre : SNd × SNd × Int → Bool) a, fun a => (F_fabv : SNd × SNd × Int → Bool) a⟩
theorem E_fabv_ok : E_fabv.Ok Try.prog := fun a hp vs hv => (fabv_run a hp).elim fun f h => fnX_ok (C := C_fabv) (Lt := Lt_fabv) (fn := Try.f57) (rs := [.tmp 6]) [.g tSNd, .g tSNd, .c (.int .i64)] [.v (.bool)] mixed es_fabv Try.func57 rfl rfl rfl (by kernel_rfl) (by kernel_rfl) f h vs hv
def freS (a : List SEn × Rg) : List Rg := free (a.2, a.1.map rgE)
def frePre (a : List SEn × Rg) : Bool := decide (a.1.length ≤ 1000)
noncomputable def C_ffre : Cfg := ⟨Try.prog, [E_crng, E_free], pmT [], 25, [], []⟩
theorem es_ffre : EsOk Try.prog [E_crng, E_free] [] := es_cons E_crng_ok (es_cons E_free_ok (es_nil))
def Lt_ffre : Nat → LD := ldT [(0, ⟨[.box 3 3 41 2 tRg, .list 5 999 41 2 tRg, .rd 8 tSEn, .c 9 (.int .i64), .c 10 (.int .i64)], [], 0⟩)]
noncomputable def M_ffre (f : Nat) (a : (List (SEn)) × Rg) : Option ((List (Rg))) := (runX (C_ffre) Lt_ffre (Kret Try.prog [.tmp 4] [.o 41 2 tRg]) f [.code (bodyOf Try.f23)] (initX [.rd tSEn, .g tRg] a) : Option (ResT [.o 41 2 tRg]))
noncomputable def L_ffre_0 (f : Nat) (x : Rg × (List (Rg)) × (List (SEn)) × Int × Int) : Option ((List (Rg))) := (runX (C_ffre) Lt_ffre (Kret Try.prog [.tmp 4] [.o 41 2 tRg]) f (headOf Try.f23 0) ((Lt_ffre 0).mk' x) : Option (ResT [.o 41 2 tRg]))
theorem M_ffre_eq (f : Nat) (l : List (SEn)) (r : Rg) : M_ffre (f + 1) (l, r) =
    L_ffre_0 f (r, [], l, (↑l.length : Int), 0) := by kernel_rfl
theorem L_ffre_0_eq (f : Nat) (r : Rg) (used : List (Rg)) (x8 : List (SEn)) (x9 : Int) (x10 : Int) : L_ffre_0 (f + 1) (r, used, x8, x9, x10) =
    bif decide (x10 < x9) then bif decide (0 ≤ x10) && decide (x10 < (↑x8.length : Int)) then bif decide ((used.length + [((x8.getD x10.toNat (0, 0, 0, 0, 0, [], 0, 0, 0, 0, 0, 0, false)).2.2.2.2.2.2.2.1, (x8.getD x10.toNat (0, 0, 0, 0, 0, [], 0, 0, 0, 0, 0, 0, false)).2.2.2.2.2.2.2.2.1)].length) * 16 ≤ 140737488355328) then L_ffre_0 f (r, used ++ [((x8.getD x10.toNat (0, 0, 0, 0, 0, [], 0, 0, 0, 0, 0, 0, false)).2.2.2.2.2.2.2.1, (x8.getD x10.toNat (0, 0, 0, 0, 0, [], 0, 0, 0, 0, 0, 0, false)).2.2.2.2.2.2.2.2.1)], x8, x9, IntKind.i64.wrap (x10 + 1)) else none else none else bif smallF (r, used) then some (free (r, used)) else none := by kernel_rfl
noncomputable def F_ffre_0 : List (SEn) → (Rg × (List (Rg)) × (List (SEn)) × Int × Nat) → (List (Rg))
  | [], (r, used, x8, x9, x10) => free (r, used)
  | uu :: rest, (r, used, x8, x9, x10) => F_ffre_0 rest (r, used ++ [(uu.2.2.2.2.2.2.2.1, uu.2.2.2.2.2.2.2.2.1)], x8, x9, x10 + 1)
noncomputable def P_ffre_0 : List (SEn) → (Rg × (List (Rg)) × (List (SEn)) × Int × Nat) → Bool
  | [], (r, used, x8, x9, x10) => smallF (r, used)
  | uu :: rest, (r, used, x8, x9, x10) => decide ((used.length + [(uu.2.2.2.2.2.2.2.1, uu.2.2.2.2.2.2.2.2.1)].length) * 16 ≤ 140737488355328) && P_ffre_0 rest (r, used ++ [(uu.2.2.2.2.2.2.2.1, uu.2.2.2.2.2.2.2.2.1)], x8, x9, x10 + 1)
theorem A_ffre_0 : ∀ (rest : List (SEn)) (r : Rg) (used : List (Rg)) (x8 : List (SEn)) (x9 : Int) (x10 : Nat) (hd : x8.drop x10 = rest) (hn : x9 = ((x8.length : Nat) : Int)) (hl : x8.length ≤ 1099511627776), Rns (fun f => L_ffre_0 f (r, used, x8, x9, ((x10 : Nat) : Int))) (P_ffre_0 rest (r, used, x8, x9, x10)) (F_ffre_0 rest (r, used, x8, x9, x10))
  | [], r, used, x8, x9, x10, hd, hn, hl => ev_step (T := fun f => bif smallF (r, used) then some (free (r, used)) else none) (fun f => (L_ffre_0_eq f _ _ _ _ _).trans (by simp only [ge_decn hn (drop_ge hd), ge0, Bool.and_self, Bool.true_and, cond_true, cond_false, List.length_set] <;> rfl)) (ev_chk1 ev_some)
  | uu :: rest, r, used, x8, x9, x10, hd, hn, hl => ev_step (T := fun f => bif decide ((used.length + [(uu.2.2.2.2.2.2.2.1, uu.2.2.2.2.2.2.2.2.1)].length) * 16 ≤ 140737488355328) then L_ffre_0 f (r, used ++ [(uu.2.2.2.2.2.2.2.1, uu.2.2.2.2.2.2.2.2.1)], x8, x9, (↑(x10 + 1) : Int)) else none) (fun f => (L_ffre_0_eq f _ _ _ _ _).trans (by simp only [lt_decn hn (drop_lt hd), lt_dec (drop_lt hd), drop_get hd, wrap_succ (drop_lt hd) hl, getD_set (drop_lt hd), ge0, Bool.and_self, Bool.true_and, cond_true, cond_false, List.length_set] <;> rfl)) (ev_chk (A_ffre_0 rest _ _ _ _ _ (by first | exact drop_succ hd | exact drop_set hd | exact drop_setS (drop_set hd)) (by first | exact hn | simpa using hn) (by first | exact hl | simpa using hl)))
noncomputable def F_ffre : ((List (SEn)) × Rg) → (List (Rg))
  | (l, r) => F_ffre_0 l (r, [], l, (↑l.length : Int), 0)
noncomputable def P_ffre : ((List (SEn)) × Rg) → Bool
  | (l, r) => decide (l.length ≤ 1099511627776) && P_ffre_0 l (r, [], l, (↑l.length : Int), 0)
theorem ffre_auto : ∀ a : (List (SEn)) × Rg, Rns (fun f => M_ffre f a) (P_ffre a) (F_ffre a)
  | (l, r) => ev_step (fun f => M_ffre_eq f _ _) (ev_and fun hh => A_ffre_0 _ _ _ _ _ _ rfl (by first | rfl | simp) (of_decide_eq_true hh))
theorem ffre_0 (l : List SEn) (r : Rg) (x : Int) : ∀ (t : List SEn) (used : List Rg) (k : Nat), used.length + t.length ≤ 1000 → F_ffre_0 t (r, used, l, x, k) = free (r, used ++ t.map rgE) ∧ P_ffre_0 t (r, used, l, x, k) = true
  | [], used, k, h => ⟨by simp [F_ffre_0], decide_eq_true (by simpa using h)⟩
  | u :: t, used, k, h => by
    simp only [List.length_cons] at h
    obtain ⟨i1, i2⟩ := ffre_0 l r x t (used ++ [rgE u]) (k + 1) (by simp; omega)
    have e1 : ((u.2.2.2.2.2.2.2.1, u.2.2.2.2.2.2.2.2.1) : Rg) = rgE u := rfl
    simp only [F_ffre_0, P_ffre_0, e1, i1, i2, List.map_cons, List.append_assoc, List.singleton_append, Bool.and_true, decide_eq_true_eq, true_and]
    simp only [List.length_singleton]; omega
theorem ffre_P : ∀ a, frePre a = true → P_ffre a = true := fun a h => by
  have h : a.1.length ≤ 1000 := of_decide_eq_true h
  simp only [P_ffre, (ffre_0 a.1 a.2 _ a.1 [] 0 (by simpa using h)).2, Bool.and_true]; exact decide_eq_true (by omega)
theorem ffre_F : ∀ a, frePre a = true → F_ffre a = freS a := fun a h => by
  have h : a.1.length ≤ 1000 := of_decide_eq_true h
  simp only [F_ffre, (ffre_0 a.1 a.2 _ a.1 [] 0 (by simpa using h)).1, List.nil_append]; rfl
theorem ffre_run : ∀ a, (frePre : (List (SEn)) × Rg → Bool) a = true → ∃ f, M_ffre f a = some ((freS : (List (SEn)) × Rg → (List (Rg))) a) := fun a h => by have h1 := ffre_auto a (ffre_P a h); rw [ffre_F a h] at h1; exact h1
noncomputable def E_ffre : Ent := ⟨23, [.rd tSEn, .g tRg], [.o 41 2 tRg], fun a => (frePre : (List (SEn)) × Rg → Bool) a, fun a => (freS : (List (SEn)) × Rg → (List (Rg))) a⟩
theorem E_ffre_ok : E_ffre.Ok Try.prog := fun a hp vs hv => (ffre_run a hp).elim fun f h => fnX_ok (C := C_ffre) (Lt := Lt_ffre) (fn := Try.f23) (rs := [.tmp 4]) [.rd tSEn, .g tRg] [.o 41 2 tRg] mixed es_ffre Try.func23 rfl rfl rfl (by kernel_rfl) (by kernel_rfl) f h vs hv
noncomputable def C_few : Cfg := ⟨Try.prog, [], pmT [], 25, [], []⟩
theorem es_few : EsOk Try.prog [] [] := es_nil
def Lt_few : Nat → LD := ldT [(0, ⟨[.rd 0 tSEn, .c 3 (.int .i64)], [], 0⟩)]
noncomputable def M_few (f : Nat) (a : (List (SEn))) : Option (Bool) := (runX (C_few) Lt_few (Kret Try.prog [.tmp 2] [.v (.bool)]) f [.code (bodyOf Try.f13)] (initX [.rd tSEn] a) : Option (ResT [.v (.bool)]))
noncomputable def L_few_0 (f : Nat) (x : (List (SEn)) × Int) : Option (Bool) := (runX (C_few) Lt_few (Kret Try.prog [.tmp 2] [.v (.bool)]) f (headOf Try.f13 0) ((Lt_few 0).mk' x) : Option (ResT [.v (.bool)]))
theorem M_few_eq (f : Nat) (l : List (SEn)) : M_few (f + 1) l =
    L_few_0 f (l, 0) := by kernel_rfl
theorem L_few_0_eq (f : Nat) (l : List (SEn)) (i : Int) : L_few_0 (f + 1) (l, i) =
    bif decide (i < (↑l.length : Int)) then bif decide (i < 50) then bif decide (0 ≤ i) && decide (i < (↑l.length : Int)) then bif decide ((↑(List.length (l.getD i.toNat (0, 0, 0, 0, 0, [], 0, 0, 0, 0, 0, 0, false)).2.2.2.2.2.1) : Int) > 20) then some false else L_few_0 f (l, IntKind.i64.wrap (i + 1)) else none else some (decide ((↑l.length : Int) ≤ 40)) else some (decide ((↑l.length : Int) ≤ 40)) := by kernel_rfl
noncomputable def F_few_0 : List (SEn) → ((List (SEn)) × Nat) → Bool
  | [], (l, i) => decide ((↑l.length : Int) ≤ 40)
  | uu :: rest, (l, i) => bif decide ((↑i : Int) < 50) then bif decide ((↑(List.length uu.2.2.2.2.2.1) : Int) > 20) then false else F_few_0 rest (l, i + 1) else decide ((↑l.length : Int) ≤ 40)
noncomputable def F_few : (List (SEn)) → Bool
  | l => F_few_0 l (l, 0)
theorem few_loop : ∀ (rest pre : List SEn), pre.length ≤ 50 → ∃ f, L_few_0 f (pre ++ rest, ((pre.length : Nat) : Int)) = some (F_few_0 rest (pre ++ rest, pre.length))
  | [], pre, hp => ⟨1, (L_few_0_eq 0 _ _).trans (by rw [lt_end]; rfl)⟩
  | u :: rest, pre, hp => by
    have e1 : IntKind.i64.wrap (((pre.length : Nat) : Int) + 1) = ((pre.length + 1 : Nat) : Int) := by rw [i64_id (by omega) (by omega)]; rfl
    by_cases h1 : ((pre.length : Nat) : Int) < 50
    case neg =>
      refine ⟨1, (L_few_0_eq 0 _ _).trans ?_⟩
      rw [lt_mid]
      simp only [F_few_0, decide_eq_false h1]; rfl
    by_cases h2 : ((u.2.2.2.2.2.1.length : Nat) : Int) > 20
    · refine ⟨1, (L_few_0_eq 0 _ _).trans ?_⟩
      rw [lt_mid, getD_mid, ge0]
      simp only [F_few_0, decide_eq_true h1, decide_eq_true h2]; rfl
    obtain ⟨f, hf⟩ := few_loop rest (pre ++ [u]) (by simp; omega)
    refine ⟨f + 1, (L_few_0_eq f _ _).trans ?_⟩
    rw [lt_mid, getD_mid, ge0, e1]
    simp only [F_few_0, decide_eq_true h1, decide_eq_false h2, cond_true, cond_false, Bool.and_self]
    rw [show (pre ++ [u]).length = pre.length + 1 by simp, List.append_assoc] at hf
    exact hf
theorem few_run : ∀ a, (fun _ => true) a = true → ∃ f, M_few f a = some (F_few a) := fun a _ => by
  obtain ⟨f, hf⟩ := few_loop a [] (by simp)
  exact ⟨f + 1, (M_few_eq f _).trans hf⟩
noncomputable def E_few : Ent := ⟨13, [.rd tSEn], [.v (.bool)], fun a => (fun _ => true : (List (SEn)) → Bool) a, fun a => (F_few : (List (SEn)) → Bool) a⟩
theorem E_few_ok : E_few.Ok Try.prog := fun a hp vs hv => (few_run a hp).elim fun f h => fnX_ok (C := C_few) (Lt := Lt_few) (fn := Try.f13) (rs := [.tmp 2]) [.rd tSEn] [.v (.bool)] mixed es_few Try.func13 rfl rfl rfl (by kernel_rfl) (by kernel_rfl) f h vs hv
theorem few_0 (l : List SEn) : ∀ (r p : List SEn), l = p ++ r → F_few_0 r (l, p.length) = true → l.length ≤ 40 ∧ ∀ e ∈ r, (epath e).length ≤ 20
  | [], p, hl, h => by
    simp only [F_few_0, decide_eq_true_eq] at h
    exact ⟨by omega, fun e he => by cases he⟩
  | u :: r, p, hl, h => by
    simp only [F_few_0] at h
    by_cases h5 : ((p.length : Nat) : Int) < 50
    · rw [decide_eq_true h5, cond_true] at h
      by_cases h2 : ((u.2.2.2.2.2.1.length : Nat) : Int) > 20
      · rw [decide_eq_true h2] at h; cases h
      · rw [decide_eq_false h2, cond_false] at h
        obtain ⟨i1, i2⟩ := few_0 l r (p ++ [u]) (by simpa using hl) (by simpa using h)
        refine ⟨i1, fun e he => ?_⟩
        rcases List.mem_cons.1 he with rfl | he
        · show (e.2.2.2.2.2.1).length ≤ 20; omega
        · exact i2 e he
    · rw [decide_eq_false h5, cond_false, decide_eq_true_eq] at h
      rw [hl] at h; simp at h; omega
theorem few_ok {l : List SEn} (h : F_few l = true) : l.length ≤ 40 ∧ (∀ e ∈ l, (epath e).length ≤ 20) ∧ okF l = true := by
  obtain ⟨h1, h2⟩ := few_0 l l [] rfl h
  refine ⟨h1, h2, ?_⟩
  simp only [okF, Bool.and_eq_true]
  exact ⟨decide_eq_true (by omega), okE_mk (by omega) fun e he => decide_eq_true (by have := h2 e he; show (epath e).length ≤ _; omega)⟩
end Go.AL
