/-
  Contracts of forest.Valid, Prune, Evict, Free and of the reference's. By an AI agent.
-/
import Derived.Test.YteppokgkagjklaaH2
namespace Go.AL
open Go.Proofs
set_option linter.unusedVariables false
set_option linter.unusedSimpArgs false
noncomputable def C_frel : Cfg := ⟨Try.prog, [E_sidx, E_seq, E_crng, E_cont, E_sob], pmT [(4, ([(0, []), (1, []), (2, []), (3, []), (4, []), (5, []), (6, []), (7, []), (8, []), (9, []), (11, []), (12, []), (10, []), (13, []), (14, []), (15, []), (16, []), (17, []), (18, []), (19, []), (20, []), (21, []), (22, []), (23, []), (24, []), (25, []), (26, []), (27, []), (28, []), (29, [])], [(4, 4), (13, 41)]))], 42, []⟩
theorem es_frel : EsOk Try.prog [E_sidx, E_seq, E_crng, E_cont, E_sob] [] := es_cons E_sidx_ok (es_cons E_seq_ok (es_cons E_crng_ok (es_cons E_cont_ok (es_cons E_sob_ok (es_nil)))))
def Lt_frel : Nat → LD := ldT []
noncomputable def M_frel (f : Nat) (a : SNd × SNd) : Option (Bool) := (runX (C_frel) Lt_frel (Kret Try.prog [.tmp 4] [.v (.bool)]) f [.code (bodyOf Try.f52)] (initX [.g tSNd, .g tSNd] a) : Option (ResT [.v (.bool)]))
theorem M_frel_eq (f : Nat) (p : SNd) (n : SNd) : M_frel (f + 1) (p, n) =
    bif len40n n.2.2.2.1 then bif decide (idxI n.2.2.2.1 (p.1, p.2.1, p.2.2.1) 0 < 0) then some true else bif decide (0 ≤ idxI n.2.2.2.1 (p.1, p.2.1, p.2.2.1) 0) && decide (idxI n.2.2.2.1 (p.1, p.2.1, p.2.2.1) 0 ≤ (↑(List.length n.2.2.2.1) : Int)) then bif len40n p.2.2.2.1 then bif decide (p.2.2.2.1 = List.take (idxI n.2.2.2.1 (p.1, p.2.1, p.2.2.1) 0).toNat n.2.2.2.1) then bif contains ((p.2.2.2.2.2.1, p.2.2.2.2.2.2.1), n.2.2.2.2.2.1, n.2.2.2.2.2.2.1) then bif p.2.2.2.2.1 == 1 then some true else some (sobB (p.2.2.2.2, n.2.2.2.2)) else some false else some false else none else none else none := by kernel_rfl
noncomputable def F_frel : (SNd × SNd) → Bool
  | (p, n) => bif decide (idxI n.2.2.2.1 (p.1, p.2.1, p.2.2.1) 0 < 0) then true else bif decide (p.2.2.2.1 = List.take (idxI n.2.2.2.1 (p.1, p.2.1, p.2.2.1) 0).toNat n.2.2.2.1) then bif contains ((p.2.2.2.2.2.1, p.2.2.2.2.2.2.1), n.2.2.2.2.2.1, n.2.2.2.2.2.2.1) then bif p.2.2.2.2.1 == 1 then true else sobB (p.2.2.2.2, n.2.2.2.2) else false else false
noncomputable def P_frel : (SNd × SNd) → Bool
  | (p, n) => len40n n.2.2.2.1 && bif decide (idxI n.2.2.2.1 (p.1, p.2.1, p.2.2.1) 0 < 0) then true else decide (0 ≤ idxI n.2.2.2.1 (p.1, p.2.1, p.2.2.1) 0) && decide (idxI n.2.2.2.1 (p.1, p.2.1, p.2.2.1) 0 ≤ (↑(List.length n.2.2.2.1) : Int)) && len40n p.2.2.2.1
theorem frel_auto : ∀ a : SNd × SNd, Rns (fun f => M_frel f a) (P_frel a) (F_frel a)
  | (p, n) => ev_step (fun f => M_frel_eq f _ _) (ev_chk (ev_bif ev_some (ev_chk (ev_chk1 (ev_bift (ev_bift (ev_bift ev_some ev_some) ev_some) ev_some)))))
theorem idxI_range {α : Type} [DecidableEq α] (x : α) : ∀ (l : List α) (k : Int), idxI l x k = -1 ∨ (k ≤ idxI l x k ∧ idxI l x k < k + l.length)
  | [], k => .inl rfl
  | u :: l, k => by
    have ih := idxI_range x l (k + 1)
    simp only [idxI, List.length_cons]
    cases decide (u = x)
    · simp only [cond_false]; omega
    · simp only [cond_true]; omega
def relPre (a : SNd × SNd) : Bool := len40n (npath a.1) && len40n (npath a.2)
theorem frel_P : ∀ a, relPre a = true → P_frel a = true := by
  rintro ⟨p, n⟩ h
  simp only [relPre, Bool.and_eq_true] at h
  have h1 : len40n p.2.2.2.1 = true := h.1
  have h2 : len40n n.2.2.2.1 = true := h.2
  have hr := idxI_range (p.1, p.2.1, p.2.2.1) n.2.2.2.1 0
  simp only [P_frel, h1, h2, Bool.true_and, Bool.and_true]
  by_cases h0 : idxI n.2.2.2.1 (p.1, p.2.1, p.2.2.1) 0 < 0
  · rw [decide_eq_true h0]; rfl
  · rw [decide_eq_false h0, cond_false, Bool.and_eq_true]; exact ⟨decide_eq_true (by omega), decide_eq_true (by omega)⟩
theorem frel_F : ∀ a, relPre a = true → F_frel a = F_frel a := fun _ _ => rfl
theorem frel_run : ∀ a, (relPre : SNd × SNd → Bool) a = true → ∃ f, M_frel f a = some ((F_frel : SNd × SNd → Bool) a) := fun a h => by have h1 := frel_auto a (frel_P a h); rw [frel_F a h] at h1; exact h1
noncomputable def E_frel : Ent := ⟨52, [.g tSNd, .g tSNd], [.v (.bool)], fun a => (relPre : SNd × SNd → Bool) a, fun a => (F_frel : SNd × SNd → Bool) a⟩
theorem E_frel_ok : E_frel.Ok Try.prog := fun a hp vs hv => (frel_run a hp).elim fun f h => fnX_ok (C := C_frel) (Lt := Lt_frel) (fn := Try.f52) (rs := [.tmp 4]) [.g tSNd, .g tSNd] [.v (.bool)] mixed es_frel Try.func52 rfl rfl rfl (by kernel_rfl) (by kernel_rfl) f h vs hv
noncomputable def C_fabv : Cfg := ⟨Try.prog, [E_sids, E_rrng, E_rcont, E_rsob], pmT [(1, ([(0, []), (1, []), (2, []), (3, []), (4, []), (5, []), (6, []), (7, []), (8, []), (9, []), (11, []), (12, []), (10, []), (13, []), (14, []), (15, []), (16, []), (17, []), (18, []), (19, []), (20, []), (21, []), (22, []), (23, []), (24, []), (25, []), (26, []), (27, []), (28, []), (29, [])], [(6, 35)]))], 36, []⟩
theorem es_fabv : EsOk Try.prog [E_sids, E_rrng, E_rcont, E_rsob] [] := es_cons E_sids_ok (es_cons E_rrng_ok (es_cons E_rcont_ok (es_cons E_rsob_ok (es_nil))))
def Lt_fabv : Nat → LD := ldT []
noncomputable def M_fabv (f : Nat) (a : SNd × SNd × Int) : Option (Bool) := (runX (C_fabv) Lt_fabv (Kret Try.prog [.tmp 6] [.v (.bool)]) f [.code (bodyOf Try.f57)] (initX [.g tSNd, .g tSNd, .c (.int .i64)] a) : Option (ResT [.v (.bool)]))
theorem M_fabv_eq (f : Nat) (p : SNd) (n : SNd) (k : Int) : M_fabv (f + 1) (p, n, k) =
    bif decide (0 ≤ k) && decide (k ≤ (↑(List.length n.2.2.2.1) : Int)) then bif len40n p.2.2.2.1 then bif decide (p.2.2.2.1 = List.take k.toNat n.2.2.2.1) then bif contains ((p.2.2.2.2.2.1, p.2.2.2.2.2.2.1), n.2.2.2.2.2.1, n.2.2.2.2.2.2.1) then bif p.2.2.2.2.1 == 1 then some true else some (sobB (p.2.2.2.2, n.2.2.2.2)) else some false else some false else none else none := by kernel_rfl
noncomputable def F_fabv : (SNd × SNd × Int) → Bool
  | (p, n, k) => bif decide (p.2.2.2.1 = List.take k.toNat n.2.2.2.1) then bif contains ((p.2.2.2.2.2.1, p.2.2.2.2.2.2.1), n.2.2.2.2.2.1, n.2.2.2.2.2.2.1) then bif p.2.2.2.2.1 == 1 then true else sobB (p.2.2.2.2, n.2.2.2.2) else false else false
noncomputable def P_fabv : (SNd × SNd × Int) → Bool
  | (p, n, k) => decide (0 ≤ k) && decide (k ≤ (↑(List.length n.2.2.2.1) : Int)) && len40n p.2.2.2.1
theorem fabv_auto : ∀ a : SNd × SNd × Int, Rns (fun f => M_fabv f a) (P_fabv a) (F_fabv a)
  | (p, n, k) => ev_step (fun f => M_fabv_eq f _ _ _) (ev_chk (ev_chk1 (ev_bift (ev_bift (ev_bift ev_some ev_some) ev_some) ev_some)))
def abvPre (a : SNd × SNd × Int) : Bool := decide (0 ≤ a.2.2) && decide (a.2.2 ≤ (((npath a.2.1).length : Nat) : Int)) && len40n (npath a.1)
theorem fabv_P : ∀ a, abvPre a = true → P_fabv a = true := fun a h => h
theorem fabv_F : ∀ a, abvPre a = true → F_fabv a = F_fabv a := fun _ _ => rfl
theorem fabv_run : ∀ a, (abvPre : SNd × SNd × Int → Bool) a = true → ∃ f, M_fabv f a = some ((F_fabv : SNd × SNd × Int → Bool) a) := fun a h => by have h1 := fabv_auto a (fabv_P a h); rw [fabv_F a h] at h1; exact h1
noncomputable def E_fabv : Ent := ⟨57, [.g tSNd, .g tSNd, .c (.int .i64)], [.v (.bool)], fun a => (abvPre : SNd × SNd × Int → Bool) a, fun a => (F_fabv : SNd × SNd × Int → Bool) a⟩
theorem E_fabv_ok : E_fabv.Ok Try.prog := fun a hp vs hv => (fabv_run a hp).elim fun f h => fnX_ok (C := C_fabv) (Lt := Lt_fabv) (fn := Try.f57) (rs := [.tmp 6]) [.g tSNd, .g tSNd, .c (.int .i64)] [.v (.bool)] mixed es_fabv Try.func57 rfl rfl rfl (by kernel_rfl) (by kernel_rfl) f h vs hv
noncomputable def C_same : Cfg := ⟨Try.prog, [], pmT [(6, ([(0, []), (1, []), (2, []), (3, []), (4, []), (5, []), (6, []), (7, []), (8, [])], [(17, 25)]))], 26, []⟩
theorem es_same : EsOk Try.prog [] [] := es_nil
def Lt_same : Nat → LD := ldT [(0, ⟨[.rd 0 tRg, .rd 1 tRg, .c 5 (.int .i64)], []⟩)]
noncomputable def M_same (f : Nat) (a : (List (Rg)) × (List (Rg))) : Option (Bool) := (runX (C_same) Lt_same (Kret Try.prog [.tmp 4] [.v (.bool)]) f [.code (bodyOf Try.f22)] (initX [.rd tRg, .rd tRg] a) : Option (ResT [.v (.bool)]))
noncomputable def L_same_0 (f : Nat) (x : (List (Rg)) × (List (Rg)) × Int) : Option (Bool) := (runX (C_same) Lt_same (Kret Try.prog [.tmp 4] [.v (.bool)]) f (headOf Try.f22 0) ((Lt_same 0).mk' x) : Option (ResT [.v (.bool)]))
theorem M_same_eq (f : Nat) (a : List (Rg)) (b : List (Rg)) : M_same (f + 1) (a, b) =
    bif (↑a.length : Int) != (↑b.length : Int) then some false else L_same_0 f (a, b, 0) := by kernel_rfl
theorem L_same_0_eq (f : Nat) (a : List (Rg)) (b : List (Rg)) (i : Int) : L_same_0 (f + 1) (a, b, i) =
    bif decide (i < (↑a.length : Int)) then bif decide (0 ≤ i) && decide (i < (↑a.length : Int)) then bif decide (0 ≤ i) && decide (i < (↑b.length : Int)) then bif !((a.getD i.toNat (0, 0)).1 == (b.getD i.toNat (0, 0)).1 && ((a.getD i.toNat (0, 0)).2 == (b.getD i.toNat (0, 0)).2 && true)) then some false else L_same_0 f (a, b, IntKind.i64.wrap (i + 1)) else none else none else some true := by kernel_rfl
noncomputable def F_same_0 : List (Rg) → ((List (Rg)) × (List (Rg)) × Nat) → Bool
  | [], (a, b, i) => true
  | uu :: rest, (a, b, i) => bif !(uu.1 == (b.getD (↑i : Int).toNat (0, 0)).1 && (uu.2 == (b.getD (↑i : Int).toNat (0, 0)).2 && true)) then false else F_same_0 rest (a, b, i + 1)
noncomputable def P_same_0 : List (Rg) → ((List (Rg)) × (List (Rg)) × Nat) → Bool
  | [], (a, b, i) => true
  | uu :: rest, (a, b, i) => decide ((↑i : Int) < (↑b.length : Int)) && bif !(uu.1 == (b.getD (↑i : Int).toNat (0, 0)).1 && (uu.2 == (b.getD (↑i : Int).toNat (0, 0)).2 && true)) then true else P_same_0 rest (a, b, i + 1)
theorem A_same_0 : ∀ (rest : List (Rg)) (a : List (Rg)) (b : List (Rg)) (i : Nat) (hd : a.drop i = rest) (hl : a.length ≤ 1099511627776), Rns (fun f => L_same_0 f (a, b, ((i : Nat) : Int))) (P_same_0 rest (a, b, i)) (F_same_0 rest (a, b, i))
  | [], a, b, i, hd, hl => ev_step (T := fun f => some true) (fun f => (L_same_0_eq f _ _ _).trans (by simp only [ge_dec (drop_ge hd), ge0, Bool.and_self, Bool.true_and, cond_true, cond_false, List.length_set] <;> rfl)) ev_some
  | uu :: rest, a, b, i, hd, hl => ev_step (T := fun f => bif decide ((↑i : Int) < (↑b.length : Int)) then bif !(uu.1 == (b.getD (↑i : Int).toNat (0, 0)).1 && (uu.2 == (b.getD (↑i : Int).toNat (0, 0)).2 && true)) then some false else L_same_0 f (a, b, (↑(i + 1) : Int)) else none) (fun f => (L_same_0_eq f _ _ _).trans (by simp only [lt_dec (drop_lt hd), drop_get hd, wrap_succ (drop_lt hd) hl, getD_set (drop_lt hd), ge0, Bool.and_self, Bool.true_and, cond_true, cond_false, List.length_set] <;> rfl)) (ev_chk (ev_bif ev_some (A_same_0 rest _ _ _ (by first | exact drop_succ hd | exact drop_set hd | exact drop_setS (drop_set hd)) (by first | exact hl | simpa using hl))))
noncomputable def F_same : ((List (Rg)) × (List (Rg))) → Bool
  | (a, b) => bif (↑a.length : Int) != (↑b.length : Int) then false else F_same_0 a (a, b, 0)
noncomputable def P_same : ((List (Rg)) × (List (Rg))) → Bool
  | (a, b) => bif (↑a.length : Int) != (↑b.length : Int) then true else decide (a.length ≤ 1099511627776) && P_same_0 a (a, b, 0)
theorem same_auto : ∀ a : (List (Rg)) × (List (Rg)), Rns (fun f => M_same f a) (P_same a) (F_same a)
  | (a, b) => ev_step (fun f => M_same_eq f _ _) (ev_bif ev_some (ev_and fun hh => A_same_0 _ _ _ _ rfl (of_decide_eq_true hh)))
theorem same_0 (b : List Rg) : ∀ (r s p : List Rg), b = p ++ s → r.length = s.length → ∀ a, F_same_0 r (a, b, p.length) = decide (r = s) ∧ P_same_0 r (a, b, p.length) = true
  | [], [], p, hb, hl, a => ⟨rfl, rfl⟩
  | u :: r, v :: s, p, hb, hl, a => by
    obtain ⟨i1, i2⟩ := same_0 b r s (p ++ [v]) (by simpa using hb) (by simpa using hl) a
    rw [show (p ++ [v]).length = p.length + 1 by simp] at i1 i2
    have hg : b.getD (Int.toNat ((p.length : Nat) : Int)) (0, 0) = v := by rw [hb, Int.toNat_natCast]; simp
    have hlt : decide (((p.length : Nat) : Int) < ((b.length : Nat) : Int)) = true := decide_eq_true (by rw [hb]; simp; omega)
    have ed : decide (u :: r = v :: s) = (decide (u.1 = v.1) && (decide (u.2 = v.2) && decide (r = s))) := by
      rw [Bool.eq_iff_iff]
      simp only [Bool.and_eq_true, decide_eq_true_eq, List.cons.injEq]
      constructor
      · rintro ⟨rfl, rfl⟩; exact ⟨rfl, rfl, rfl⟩
      · rintro ⟨e1, e2, e4⟩; exact ⟨Prod.ext e1 e2, e4⟩
    simp only [F_same_0, P_same_0, hg, hlt, i1, i2, ed, beqI, Bool.true_and]
    cases decide (u.1 = v.1) <;> cases decide (u.2 = v.2) <;> simp
  | [], v :: s, p, hb, hl, a => by simp at hl
  | u :: r, [], p, hb, hl, a => by simp at hl
def sameS (a : List Rg × List Rg) : Bool := decide (a.1 = a.2)
theorem same_both : ∀ a : List Rg × List Rg, len40n a.1 = true → P_same a = true ∧ F_same a = sameS a := by
  rintro ⟨a, b⟩ h
  have hl : a.length ≤ 1099511627776 := of_decide_eq_true h
  simp only [P_same, F_same, sameS]
  by_cases e : ((a.length : Nat) : Int) = ((b.length : Nat) : Int)
  · have e2 : (((a.length : Nat) : Int) != ((b.length : Nat) : Int)) = false := by simp [e]
    obtain ⟨i1, i2⟩ := same_0 b a b [] rfl (by omega) a
    simp only [List.length_nil] at i1 i2
    rw [e2]
    simp only [cond_false, i1, i2, Bool.and_true]
    exact ⟨decide_eq_true hl, trivial⟩
  · have e2 : (((a.length : Nat) : Int) != ((b.length : Nat) : Int)) = true := by simpa using e
    rw [e2]
    exact ⟨rfl, (decide_eq_false (fun h => e (by rw [h]))).symm⟩
theorem same_P : ∀ a : List Rg × List Rg, len40n a.1 = true → P_same a = true := fun a h => (same_both a h).1
theorem same_F : ∀ a : List Rg × List Rg, len40n a.1 = true → F_same a = sameS a := fun a h => (same_both a h).2
theorem same_run : ∀ a, (fun a => len40n a.1 : (List (Rg)) × (List (Rg)) → Bool) a = true → ∃ f, M_same f a = some ((sameS : (List (Rg)) × (List (Rg)) → Bool) a) := fun a h => by have h1 := same_auto a (same_P a h); rw [same_F a h] at h1; exact h1
noncomputable def E_same : Ent := ⟨22, [.rd tRg, .rd tRg], [.v (.bool)], fun a => (fun a => len40n a.1 : (List (Rg)) × (List (Rg)) → Bool) a, fun a => (sameS : (List (Rg)) × (List (Rg)) → Bool) a⟩
theorem E_same_ok : E_same.Ok Try.prog := fun a hp vs hv => (same_run a hp).elim fun f h => fnX_ok (C := C_same) (Lt := Lt_same) (fn := Try.f22) (rs := [.tmp 4]) [.rd tRg, .rd tRg] [.v (.bool)] mixed es_same Try.func22 rfl rfl rfl (by kernel_rfl) (by kernel_rfl) f h vs hv
def freS (a : List SEn × Rg) : List Rg := free (a.2, a.1.map rgE)
def frePre (a : List SEn × Rg) : Bool := decide (a.1.length ≤ 1000)
noncomputable def C_ffre : Cfg := ⟨Try.prog, [E_crng, E_free], pmT [], 25, []⟩
theorem es_ffre : EsOk Try.prog [E_crng, E_free] [] := es_cons E_crng_ok (es_cons E_free_ok (es_nil))
def Lt_ffre : Nat → LD := ldT [(0, ⟨[.box 3 3 41 2 tRg, .list 5 999 41 2 tRg, .rd 8 tSEn, .c 9 (.int .i64), .c 10 (.int .i64)], []⟩)]
noncomputable def M_ffre (f : Nat) (a : (List (SEn)) × Rg) : Option ((List (Rg))) := (runX (C_ffre) Lt_ffre (Kret Try.prog [.tmp 4] [.o 41 2 tRg]) f [.code (bodyOf Try.f23)] (initX [.rd tSEn, .g tRg] a) : Option (ResT [.o 41 2 tRg]))
noncomputable def L_ffre_0 (f : Nat) (x : Rg × (List (Rg)) × (List (SEn)) × Int × Int) : Option ((List (Rg))) := (runX (C_ffre) Lt_ffre (Kret Try.prog [.tmp 4] [.o 41 2 tRg]) f (headOf Try.f23 0) ((Lt_ffre 0).mk' x) : Option (ResT [.o 41 2 tRg]))
theorem M_ffre_eq (f : Nat) (l : List (SEn)) (r : Rg) : M_ffre (f + 1) (l, r) =
    L_ffre_0 f (r, [], l, (↑l.length : Int), 0) := by kernel_rfl
theorem L_ffre_0_eq (f : Nat) (r : Rg) (used : List (Rg)) (x8 : List (SEn)) (x9 : Int) (x10 : Int) : L_ffre_0 (f + 1) (r, used, x8, x9, x10) =
    bif decide (x10 < x9) then bif decide (0 ≤ x10) && decide (x10 < (↑x8.length : Int)) then bif decide ((used.length + [((x8.getD x10.toNat (0, 0, 0, 0, 0, [], 0, 0, 0, 0, 0, 0, false)).2.2.2.2.2.2.2.1, (x8.getD x10.toNat (0, 0, 0, 0, 0, [], 0, 0, 0, 0, 0, 0, false)).2.2.2.2.2.2.2.2.1)].length) * 16 ≤ 140737488355328) then L_ffre_0 f (r, used ++ [((x8.getD x10.toNat (0, 0, 0, 0, 0, [], 0, 0, 0, 0, 0, 0, false)).2.2.2.2.2.2.2.1, (x8.getD x10.toNat (0, 0, 0, 0, 0, [], 0, 0, 0, 0, 0, 0, false)).2.2.2.2.2.2.2.2.1)], x8, x9, IntKind.i64.wrap (x10 + 1)) else none else none else bif smallF (r, used) then some (free (r, used)) else none := by kernel_rfl
noncomputable def F_ffre_0 : List (SEn) → (Rg × (List (Rg)) × (List (SEn)) × Int × Nat) → (List (Rg))
  | [], (r, used, x8, x9, x10) => free (r, used)
  | uu :: rest, (r, used, x8, x9, x10) => F_ffre_0 rest (r, used ++ [(uu.2.2.2.2.2.2.2.1, uu.2.2.2.2.2.2.2.2.1)], x8, x9, x10 + 1)
noncomputable def P_ffre_0 : List (SEn) → (Rg × (List (Rg)) × (List (SEn)) × Int × Nat) → Bool
  | [], (r, used, x8, x9, x10) => smallF (r, used)
  | uu :: rest, (r, used, x8, x9, x10) => decide ((used.length + [(uu.2.2.2.2.2.2.2.1, uu.2.2.2.2.2.2.2.2.1)].length) * 16 ≤ 140737488355328) && P_ffre_0 rest (r, used ++ [(uu.2.2.2.2.2.2.2.1, uu.2.2.2.2.2.2.2.2.1)], x8, x9, x10 + 1)
theorem A_ffre_0 : ∀ (rest : List (SEn)) (r : Rg) (used : List (Rg)) (x8 : List (SEn)) (x9 : Int) (x10 : Nat) (hd : x8.drop x10 = rest) (hn : x9 = ((x8.length : Nat) : Int)) (hl : x8.length ≤ 1099511627776), Rns (fun f => L_ffre_0 f (r, used, x8, x9, ((x10 : Nat) : Int))) (P_ffre_0 rest (r, used, x8, x9, x10)) (F_ffre_0 rest (r, used, x8, x9, x10))
  | [], r, used, x8, x9, x10, hd, hn, hl => ev_step (T := fun f => bif smallF (r, used) then some (free (r, used)) else none) (fun f => (L_ffre_0_eq f _ _ _ _ _).trans (by simp only [ge_decn hn (drop_ge hd), ge0, Bool.and_self, Bool.true_and, cond_true, cond_false, List.length_set] <;> rfl)) (ev_chk1 ev_some)
  | uu :: rest, r, used, x8, x9, x10, hd, hn, hl => ev_step (T := fun f => bif decide ((used.length + [(uu.2.2.2.2.2.2.2.1, uu.2.2.2.2.2.2.2.2.1)].length) * 16 ≤ 140737488355328) then L_ffre_0 f (r, used ++ [(uu.2.2.2.2.2.2.2.1, uu.2.2.2.2.2.2.2.2.1)], x8, x9, (↑(x10 + 1) : Int)) else none) (fun f => (L_ffre_0_eq f _ _ _ _ _).trans (by simp only [lt_decn hn (drop_lt hd), lt_dec (drop_lt hd), drop_get hd, wrap_succ (drop_lt hd) hl, getD_set (drop_lt hd), ge0, Bool.and_self, Bool.true_and, cond_true, cond_false, List.length_set] <;> rfl)) (ev_chk (A_ffre_0 rest _ _ _ _ _ (by first | exact drop_succ hd | exact drop_set hd | exact drop_setS (drop_set hd)) (by first | exact hn | simpa using hn) (by first | exact hl | simpa using hl)))
noncomputable def F_ffre : ((List (SEn)) × Rg) → (List (Rg))
  | (l, r) => F_ffre_0 l (r, [], l, (↑l.length : Int), 0)
noncomputable def P_ffre : ((List (SEn)) × Rg) → Bool
  | (l, r) => decide (l.length ≤ 1099511627776) && P_ffre_0 l (r, [], l, (↑l.length : Int), 0)
theorem ffre_auto : ∀ a : (List (SEn)) × Rg, Rns (fun f => M_ffre f a) (P_ffre a) (F_ffre a)
  | (l, r) => ev_step (fun f => M_ffre_eq f _ _) (ev_and fun hh => A_ffre_0 _ _ _ _ _ _ rfl (by first | rfl | simp) (of_decide_eq_true hh))
theorem ffre_0 (l : List SEn) (r : Rg) (x : Int) : ∀ (t : List SEn) (used : List Rg) (k : Nat), used.length + t.length ≤ 1000 → F_ffre_0 t (r, used, l, x, k) = free (r, used ++ t.map rgE) ∧ P_ffre_0 t (r, used, l, x, k) = true
  | [], used, k, h => ⟨by simp [F_ffre_0], decide_eq_true (by simpa using h)⟩
  | u :: t, used, k, h => by
    simp only [List.length_cons] at h
    obtain ⟨i1, i2⟩ := ffre_0 l r x t (used ++ [rgE u]) (k + 1) (by simp; omega)
    have e1 : ((u.2.2.2.2.2.2.2.1, u.2.2.2.2.2.2.2.2.1) : Rg) = rgE u := rfl
    simp only [F_ffre_0, P_ffre_0, e1, i1, i2, List.map_cons, List.append_assoc, List.singleton_append, Bool.and_true, decide_eq_true_eq, true_and]
    simp only [List.length_singleton]; omega
theorem ffre_P : ∀ a, frePre a = true → P_ffre a = true := fun a h => by
  have h : a.1.length ≤ 1000 := of_decide_eq_true h
  simp only [P_ffre, (ffre_0 a.1 a.2 _ a.1 [] 0 (by simpa using h)).2, Bool.and_true]; exact decide_eq_true (by omega)
theorem ffre_F : ∀ a, frePre a = true → F_ffre a = freS a := fun a h => by
  have h : a.1.length ≤ 1000 := of_decide_eq_true h
  simp only [F_ffre, (ffre_0 a.1 a.2 _ a.1 [] 0 (by simpa using h)).1, List.nil_append]; rfl
theorem ffre_run : ∀ a, (frePre : (List (SEn)) × Rg → Bool) a = true → ∃ f, M_ffre f a = some ((freS : (List (SEn)) × Rg → (List (Rg))) a) := fun a h => by have h1 := ffre_auto a (ffre_P a h); rw [ffre_F a h] at h1; exact h1
noncomputable def E_ffre : Ent := ⟨23, [.rd tSEn, .g tRg], [.o 41 2 tRg], fun a => (frePre : (List (SEn)) × Rg → Bool) a, fun a => (freS : (List (SEn)) × Rg → (List (Rg))) a⟩
theorem E_ffre_ok : E_ffre.Ok Try.prog := fun a hp vs hv => (ffre_run a hp).elim fun f h => fnX_ok (C := C_ffre) (Lt := Lt_ffre) (fn := Try.f23) (rs := [.tmp 4]) [.rd tSEn, .g tRg] [.o 41 2 tRg] mixed es_ffre Try.func23 rfl rfl rfl (by kernel_rfl) (by kernel_rfl) f h vs hv
noncomputable def C_rfre : Cfg := ⟨Try.prog, [E_rrng, E_rfree], pmT [], 26, []⟩
theorem es_rfre : EsOk Try.prog [E_rrng, E_rfree] [] := es_cons E_rrng_ok (es_cons E_rfree_ok (es_nil))
def Lt_rfre : Nat → LD := ldT [(0, ⟨[.rd 0 tSEn, .box 3 3 41 2 tRg, .list 5 999 41 2 tRg, .c 6 (.int .i64)], []⟩)]
noncomputable def M_rfre (f : Nat) (a : (List (SEn)) × Rg) : Option ((List (Rg))) := (runX (C_rfre) Lt_rfre (Kret Try.prog [.tmp 4] [.o 41 2 tRg]) f [.code (bodyOf Try.f24)] (initX [.rd tSEn, .g tRg] a) : Option (ResT [.o 41 2 tRg]))
noncomputable def L_rfre_0 (f : Nat) (x : (List (SEn)) × Rg × (List (Rg)) × Int) : Option ((List (Rg))) := (runX (C_rfre) Lt_rfre (Kret Try.prog [.tmp 4] [.o 41 2 tRg]) f (headOf Try.f24 0) ((Lt_rfre 0).mk' x) : Option (ResT [.o 41 2 tRg]))
theorem M_rfre_eq (f : Nat) (l : List (SEn)) (r : Rg) : M_rfre (f + 1) (l, r) =
    L_rfre_0 f (l, r, [], 0) := by kernel_rfl
theorem L_rfre_0_eq (f : Nat) (l : List (SEn)) (r : Rg) (used : List (Rg)) (i : Int) : L_rfre_0 (f + 1) (l, r, used, i) =
    bif decide (i < (↑l.length : Int)) then bif decide (0 ≤ i) && decide (i < (↑l.length : Int)) then bif decide ((used.length + [((l.getD i.toNat (0, 0, 0, 0, 0, [], 0, 0, 0, 0, 0, 0, false)).2.2.2.2.2.2.2.1, (l.getD i.toNat (0, 0, 0, 0, 0, [], 0, 0, 0, 0, 0, 0, false)).2.2.2.2.2.2.2.2.1)].length) * 16 ≤ 140737488355328) then L_rfre_0 f (l, r, used ++ [((l.getD i.toNat (0, 0, 0, 0, 0, [], 0, 0, 0, 0, 0, 0, false)).2.2.2.2.2.2.2.1, (l.getD i.toNat (0, 0, 0, 0, 0, [], 0, 0, 0, 0, 0, 0, false)).2.2.2.2.2.2.2.2.1)], IntKind.i64.wrap (i + 1)) else none else none else bif smallF (r, used) then some (free (r, used)) else none := by kernel_rfl
noncomputable def F_rfre_0 : List (SEn) → ((List (SEn)) × Rg × (List (Rg)) × Nat) → (List (Rg))
  | [], (l, r, used, i) => free (r, used)
  | uu :: rest, (l, r, used, i) => F_rfre_0 rest (l, r, used ++ [(uu.2.2.2.2.2.2.2.1, uu.2.2.2.2.2.2.2.2.1)], i + 1)
noncomputable def P_rfre_0 : List (SEn) → ((List (SEn)) × Rg × (List (Rg)) × Nat) → Bool
  | [], (l, r, used, i) => smallF (r, used)
  | uu :: rest, (l, r, used, i) => decide ((used.length + [(uu.2.2.2.2.2.2.2.1, uu.2.2.2.2.2.2.2.2.1)].length) * 16 ≤ 140737488355328) && P_rfre_0 rest (l, r, used ++ [(uu.2.2.2.2.2.2.2.1, uu.2.2.2.2.2.2.2.2.1)], i + 1)
theorem A_rfre_0 : ∀ (rest : List (SEn)) (l : List (SEn)) (r : Rg) (used : List (Rg)) (i : Nat) (hd : l.drop i = rest) (hl : l.length ≤ 1099511627776), Rns (fun f => L_rfre_0 f (l, r, used, ((i : Nat) : Int))) (P_rfre_0 rest (l, r, used, i)) (F_rfre_0 rest (l, r, used, i))
  | [], l, r, used, i, hd, hl => ev_step (T := fun f => bif smallF (r, used) then some (free (r, used)) else none) (fun f => (L_rfre_0_eq f _ _ _ _).trans (by simp only [ge_dec (drop_ge hd), ge0, Bool.and_self, Bool.true_and, cond_true, cond_false, List.length_set] <;> rfl)) (ev_chk1 ev_some)
  | uu :: rest, l, r, used, i, hd, hl => ev_step (T := fun f => bif decide ((used.length + [(uu.2.2.2.2.2.2.2.1, uu.2.2.2.2.2.2.2.2.1)].length) * 16 ≤ 140737488355328) then L_rfre_0 f (l, r, used ++ [(uu.2.2.2.2.2.2.2.1, uu.2.2.2.2.2.2.2.2.1)], (↑(i + 1) : Int)) else none) (fun f => (L_rfre_0_eq f _ _ _ _).trans (by simp only [lt_dec (drop_lt hd), drop_get hd, wrap_succ (drop_lt hd) hl, getD_set (drop_lt hd), ge0, Bool.and_self, Bool.true_and, cond_true, cond_false, List.length_set] <;> rfl)) (ev_chk (A_rfre_0 rest _ _ _ _ (by first | exact drop_succ hd | exact drop_set hd | exact drop_setS (drop_set hd)) (by first | exact hl | simpa using hl)))
noncomputable def F_rfre : ((List (SEn)) × Rg) → (List (Rg))
  | (l, r) => F_rfre_0 l (l, r, [], 0)
noncomputable def P_rfre : ((List (SEn)) × Rg) → Bool
  | (l, r) => decide (l.length ≤ 1099511627776) && P_rfre_0 l (l, r, [], 0)
theorem rfre_auto : ∀ a : (List (SEn)) × Rg, Rns (fun f => M_rfre f a) (P_rfre a) (F_rfre a)
  | (l, r) => ev_step (fun f => M_rfre_eq f _ _) (ev_and fun hh => A_rfre_0 _ _ _ _ _ rfl (of_decide_eq_true hh))
theorem rfre_0 (l : List SEn) (r : Rg) : ∀ (t : List SEn) (used : List Rg) (k : Nat), used.length + t.length ≤ 1000 → F_rfre_0 t (l, r, used, k) = free (r, used ++ t.map rgE) ∧ P_rfre_0 t (l, r, used, k) = true
  | [], used, k, h => ⟨by simp [F_rfre_0], decide_eq_true (by simpa using h)⟩
  | u :: t, used, k, h => by
    simp only [List.length_cons] at h
    obtain ⟨i1, i2⟩ := rfre_0 l r t (used ++ [rgE u]) (k + 1) (by simp; omega)
    have e1 : ((u.2.2.2.2.2.2.2.1, u.2.2.2.2.2.2.2.2.1) : Rg) = rgE u := rfl
    simp only [F_rfre_0, P_rfre_0, e1, i1, i2, List.map_cons, List.append_assoc, List.singleton_append, Bool.and_true, decide_eq_true_eq, true_and]
    simp only [List.length_singleton]; omega
theorem rfre_P : ∀ a, frePre a = true → P_rfre a = true := fun a h => by
  have h : a.1.length ≤ 1000 := of_decide_eq_true h
  simp only [P_rfre, (rfre_0 a.1 a.2 a.1 [] 0 (by simpa using h)).2, Bool.and_true]; exact decide_eq_true (by omega)
theorem rfre_F : ∀ a, frePre a = true → F_rfre a = freS a := fun a h => by
  have h : a.1.length ≤ 1000 := of_decide_eq_true h
  simp only [F_rfre, (rfre_0 a.1 a.2 a.1 [] 0 (by simpa using h)).1, List.nil_append]; rfl
theorem rfre_run : ∀ a, (frePre : (List (SEn)) × Rg → Bool) a = true → ∃ f, M_rfre f a = some ((freS : (List (SEn)) × Rg → (List (Rg))) a) := fun a h => by have h1 := rfre_auto a (rfre_P a h); rw [rfre_F a h] at h1; exact h1
noncomputable def E_rfre : Ent := ⟨24, [.rd tSEn, .g tRg], [.o 41 2 tRg], fun a => (frePre : (List (SEn)) × Rg → Bool) a, fun a => (freS : (List (SEn)) × Rg → (List (Rg))) a⟩
theorem E_rfre_ok : E_rfre.Ok Try.prog := fun a hp vs hv => (rfre_run a hp).elim fun f h => fnX_ok (C := C_rfre) (Lt := Lt_rfre) (fn := Try.f24) (rs := [.tmp 4]) [.rd tSEn, .g tRg] [.o 41 2 tRg] mixed es_rfre Try.func24 rfl rfl rfl (by kernel_rfl) (by kernel_rfl) f h vs hv
noncomputable def C_rids : Cfg := ⟨Try.prog, [], pmT [], 21, []⟩
theorem es_rids : EsOk Try.prog [] [] := es_nil
def Lt_rids : Nat → LD := ldT [(0, ⟨[.rd 0 tSEn, .list 3 999 25 3 tSId, .c 4 (.int .i64)], []⟩)]
noncomputable def M_rids (f : Nat) (a : (List (SEn))) : Option ((List (SId))) := (runX (C_rids) Lt_rids (Kret Try.prog [.tmp 2] [.o 25 3 tSId]) f [.code (bodyOf Try.f80)] (initX [.rd tSEn] a) : Option (ResT [.o 25 3 tSId]))
noncomputable def L_rids_0 (f : Nat) (x : (List (SEn)) × (List (SId)) × Int) : Option ((List (SId))) := (runX (C_rids) Lt_rids (Kret Try.prog [.tmp 2] [.o 25 3 tSId]) f (headOf Try.f80 0) ((Lt_rids 0).mk' x) : Option (ResT [.o 25 3 tSId]))
theorem M_rids_eq (f : Nat) (l : List (SEn)) : M_rids (f + 1) l =
    L_rids_0 f (l, [], 0) := by kernel_rfl
theorem L_rids_0_eq (f : Nat) (l : List (SEn)) (out : List (SId)) (i : Int) : L_rids_0 (f + 1) (l, out, i) =
    bif decide (i < (↑l.length : Int)) then bif decide (0 ≤ i) && decide (i < (↑l.length : Int)) then bif decide ((out.length + [((l.getD i.toNat (0, 0, 0, 0, 0, [], 0, 0, 0, 0, 0, 0, false)).2.2.1, (l.getD i.toNat (0, 0, 0, 0, 0, [], 0, 0, 0, 0, 0, 0, false)).2.2.2.1, (l.getD i.toNat (0, 0, 0, 0, 0, [], 0, 0, 0, 0, 0, 0, false)).2.2.2.2.1)].length) * 24 ≤ 140737488355328) then L_rids_0 f (l, out ++ [((l.getD i.toNat (0, 0, 0, 0, 0, [], 0, 0, 0, 0, 0, 0, false)).2.2.1, (l.getD i.toNat (0, 0, 0, 0, 0, [], 0, 0, 0, 0, 0, 0, false)).2.2.2.1, (l.getD i.toNat (0, 0, 0, 0, 0, [], 0, 0, 0, 0, 0, 0, false)).2.2.2.2.1)], IntKind.i64.wrap (i + 1)) else none else none else some out := by kernel_rfl
noncomputable def F_rids_0 : List (SEn) → ((List (SEn)) × (List (SId)) × Nat) → (List (SId))
  | [], (l, out, i) => out
  | uu :: rest, (l, out, i) => F_rids_0 rest (l, out ++ [(uu.2.2.1, uu.2.2.2.1, uu.2.2.2.2.1)], i + 1)
noncomputable def P_rids_0 : List (SEn) → ((List (SEn)) × (List (SId)) × Nat) → Bool
  | [], (l, out, i) => true
  | uu :: rest, (l, out, i) => decide ((out.length + [(uu.2.2.1, uu.2.2.2.1, uu.2.2.2.2.1)].length) * 24 ≤ 140737488355328) && P_rids_0 rest (l, out ++ [(uu.2.2.1, uu.2.2.2.1, uu.2.2.2.2.1)], i + 1)
theorem A_rids_0 : ∀ (rest : List (SEn)) (l : List (SEn)) (out : List (SId)) (i : Nat) (hd : l.drop i = rest) (hl : l.length ≤ 1099511627776), Rns (fun f => L_rids_0 f (l, out, ((i : Nat) : Int))) (P_rids_0 rest (l, out, i)) (F_rids_0 rest (l, out, i))
  | [], l, out, i, hd, hl => ev_step (T := fun f => some out) (fun f => (L_rids_0_eq f _ _ _).trans (by simp only [ge_dec (drop_ge hd), ge0, Bool.and_self, Bool.true_and, cond_true, cond_false, List.length_set] <;> rfl)) ev_some
  | uu :: rest, l, out, i, hd, hl => ev_step (T := fun f => bif decide ((out.length + [(uu.2.2.1, uu.2.2.2.1, uu.2.2.2.2.1)].length) * 24 ≤ 140737488355328) then L_rids_0 f (l, out ++ [(uu.2.2.1, uu.2.2.2.1, uu.2.2.2.2.1)], (↑(i + 1) : Int)) else none) (fun f => (L_rids_0_eq f _ _ _).trans (by simp only [lt_dec (drop_lt hd), drop_get hd, wrap_succ (drop_lt hd) hl, getD_set (drop_lt hd), ge0, Bool.and_self, Bool.true_and, cond_true, cond_false, List.length_set] <;> rfl)) (ev_chk (A_rids_0 rest _ _ _ (by first | exact drop_succ hd | exact drop_set hd | exact drop_setS (drop_set hd)) (by first | exact hl | simpa using hl)))
noncomputable def F_rids : (List (SEn)) → (List (SId))
  | l => F_rids_0 l (l, [], 0)
noncomputable def P_rids : (List (SEn)) → Bool
  | l => decide (l.length ≤ 1099511627776) && P_rids_0 l (l, [], 0)
theorem rids_auto : ∀ a : (List (SEn)), Rns (fun f => M_rids f a) (P_rids a) (F_rids a)
  | l => ev_step (fun f => M_rids_eq f _) (ev_and fun hh => A_rids_0 _ _ _ _ rfl (of_decide_eq_true hh))
theorem rids_0 (l : List SEn) : ∀ (t : List SEn) (out : List SId) (k : Nat), out.length + t.length ≤ 1099511627776 → F_rids_0 t (l, out, k) = out ++ t.map eid ∧ P_rids_0 t (l, out, k) = true
  | [], out, k, h => ⟨by simp [F_rids_0], rfl⟩
  | u :: t, out, k, h => by
    simp only [List.length_cons] at h
    obtain ⟨i1, i2⟩ := rids_0 l t (out ++ [eid u]) (k + 1) (by simp; omega)
    have e1 : ((u.2.2.1, u.2.2.2.1, u.2.2.2.2.1) : SId) = eid u := rfl
    simp only [F_rids_0, P_rids_0, e1, i1, i2, List.map_cons, List.append_assoc, List.singleton_append, Bool.and_true, decide_eq_true_eq, true_and]
    simp only [List.length_singleton]; omega
theorem rids_P : ∀ a : List SEn, len40n a = true → P_rids a = true := fun a h => by
  have hl : a.length ≤ 1099511627776 := of_decide_eq_true h
  simp only [P_rids, (rids_0 a a [] 0 (by simpa using hl)).2, Bool.and_true]; exact h
theorem rids_F : ∀ a : List SEn, len40n a = true → F_rids a = a.map eid := fun a h => by
  have hl : a.length ≤ 1099511627776 := of_decide_eq_true h
  simp only [F_rids, (rids_0 a a [] 0 (by simpa using hl)).1, List.nil_append]
theorem rids_run : ∀ a, (fun a => len40n a : (List (SEn)) → Bool) a = true → ∃ f, M_rids f a = some ((fun a => a.map eid : (List (SEn)) → (List (SId))) a) := fun a h => by have h1 := rids_auto a (rids_P a h); rw [rids_F a h] at h1; exact h1
noncomputable def E_rids : Ent := ⟨80, [.rd tSEn], [.o 25 3 tSId], fun a => (fun a => len40n a : (List (SEn)) → Bool) a, fun a => (fun a => a.map eid : (List (SEn)) → (List (SId))) a⟩
theorem E_rids_ok : E_rids.Ok Try.prog := fun a hp vs hv => (rids_run a hp).elim fun f h => fnX_ok (C := C_rids) (Lt := Lt_rids) (fn := Try.f80) (rs := [.tmp 2]) [.rd tSEn] [.o 25 3 tSId] mixed es_rids Try.func80 rfl rfl rfl (by kernel_rfl) (by kernel_rfl) f h vs hv
def pruS (a : List SEn × SId) : List SEn := a.1.filter fun e => !memD a.2 (epath e)
def eviS (a : List SEn × Int) : List SEn := a.1.filter fun e => e.1 != a.2
theorem okE_app {a b : List SEn} (ha : okE a = true) (hb : ∀ e ∈ b, len40n e.2.2.2.2.2.1 = true) (hl : (a ++ b).length ≤ 1099511627776) : okE (a ++ b) = true :=
  okE_mk hl (fun e he => by
    rcases List.mem_append.1 he with h | h
    · exact okE_mem ha h
    · exact hb e h)
noncomputable def C_rpru : Cfg := ⟨Try.prog, [E_hasId, E_rcent], pmT [(5, ([(0, []), (1, []), (2, []), (3, []), (4, []), (5, []), (6, []), (7, []), (8, [])], [(13, 21)]))], 31, []⟩
theorem es_rpru : EsOk Try.prog [E_hasId, E_rcent] [] := es_cons E_hasId_ok (es_cons E_rcent_ok (es_nil))
def Lt_rpru : Nat → LD := ldT [(0, ⟨[.rd 0 tSEn, .box 3 3 25 3 tSId, .list 5 999 32 13 tSEn, .c 6 (.int .i64)], []⟩)]
noncomputable def M_rpru (f : Nat) (a : (List (SEn)) × SId) : Option ((List (SEn))) := (runX (C_rpru) Lt_rpru (Kret Try.prog [.tmp 4] [.o 32 13 tSEn]) f [.code (bodyOf Try.f45)] (initX [.rd tSEn, .g tSId] a) : Option (ResT [.o 32 13 tSEn]))
noncomputable def L_rpru_0 (f : Nat) (x : (List (SEn)) × SId × (List (SEn)) × Int) : Option ((List (SEn))) := (runX (C_rpru) Lt_rpru (Kret Try.prog [.tmp 4] [.o 32 13 tSEn]) f (headOf Try.f45 0) ((Lt_rpru 0).mk' x) : Option (ResT [.o 32 13 tSEn]))
theorem M_rpru_eq (f : Nat) (l : List (SEn)) (id : SId) : M_rpru (f + 1) (l, id) =
    L_rpru_0 f (l, id, [], 0) := by kernel_rfl
theorem L_rpru_0_eq (f : Nat) (l : List (SEn)) (id : SId) (out : List (SEn)) (i : Int) : L_rpru_0 (f + 1) (l, id, out, i) =
    bif decide (i < (↑l.length : Int)) then bif decide (0 ≤ i) && decide (i < (↑l.length : Int)) then bif len40n (l.getD i.toNat (0, 0, 0, 0, 0, [], 0, 0, 0, 0, 0, 0, false)).2.2.2.2.2.1 then bif !memD id (l.getD i.toNat (0, 0, 0, 0, 0, [], 0, 0, 0, 0, 0, 0, false)).2.2.2.2.2.1 then bif decide (0 ≤ i) && decide (i < (↑l.length : Int)) then bif decide ((out.length + [((l.getD i.toNat (0, 0, 0, 0, 0, [], 0, 0, 0, 0, 0, 0, false)).1, (l.getD i.toNat (0, 0, 0, 0, 0, [], 0, 0, 0, 0, 0, 0, false)).2.1, (l.getD i.toNat (0, 0, 0, 0, 0, [], 0, 0, 0, 0, 0, 0, false)).2.2.1, (l.getD i.toNat (0, 0, 0, 0, 0, [], 0, 0, 0, 0, 0, 0, false)).2.2.2.1, (l.getD i.toNat (0, 0, 0, 0, 0, [], 0, 0, 0, 0, 0, 0, false)).2.2.2.2.1, (l.getD i.toNat (0, 0, 0, 0, 0, [], 0, 0, 0, 0, 0, 0, false)).2.2.2.2.2.1, (l.getD i.toNat (0, 0, 0, 0, 0, [], 0, 0, 0, 0, 0, 0, false)).2.2.2.2.2.2)].length) * 120 ≤ 140737488355328) then L_rpru_0 f (l, id, out ++ [l.getD i.toNat (0, 0, 0, 0, 0, [], 0, 0, 0, 0, 0, 0, false)], IntKind.i64.wrap (i + 1)) else none else none else L_rpru_0 f (l, id, out, IntKind.i64.wrap (i + 1)) else none else none else bif okE out then some out else none := by kernel_rfl
noncomputable def F_rpru_0 : List (SEn) → ((List (SEn)) × SId × (List (SEn)) × Nat) → (List (SEn))
  | [], (l, id, out, i) => out
  | uu :: rest, (l, id, out, i) => bif !memD id uu.2.2.2.2.2.1 then F_rpru_0 rest (l, id, out ++ [uu], i + 1) else F_rpru_0 rest (l, id, out, i + 1)
noncomputable def P_rpru_0 : List (SEn) → ((List (SEn)) × SId × (List (SEn)) × Nat) → Bool
  | [], (l, id, out, i) => okE out
  | uu :: rest, (l, id, out, i) => len40n uu.2.2.2.2.2.1 && bif !memD id uu.2.2.2.2.2.1 then decide ((out.length + [(uu.1, uu.2.1, uu.2.2.1, uu.2.2.2.1, uu.2.2.2.2.1, uu.2.2.2.2.2.1, uu.2.2.2.2.2.2)].length) * 120 ≤ 140737488355328) && P_rpru_0 rest (l, id, out ++ [uu], i + 1) else P_rpru_0 rest (l, id, out, i + 1)
theorem A_rpru_0 : ∀ (rest : List (SEn)) (l : List (SEn)) (id : SId) (out : List (SEn)) (i : Nat) (hd : l.drop i = rest) (hl : l.length ≤ 1099511627776), Rns (fun f => L_rpru_0 f (l, id, out, ((i : Nat) : Int))) (P_rpru_0 rest (l, id, out, i)) (F_rpru_0 rest (l, id, out, i))
  | [], l, id, out, i, hd, hl => ev_step (T := fun f => bif okE out then some out else none) (fun f => (L_rpru_0_eq f _ _ _ _).trans (by simp only [ge_dec (drop_ge hd), ge0, Bool.and_self, Bool.true_and, cond_true, cond_false, List.length_set] <;> rfl)) (ev_chk1 ev_some)
  | uu :: rest, l, id, out, i, hd, hl => ev_step (T := fun f => bif len40n uu.2.2.2.2.2.1 then bif !memD id uu.2.2.2.2.2.1 then bif decide ((out.length + [(uu.1, uu.2.1, uu.2.2.1, uu.2.2.2.1, uu.2.2.2.2.1, uu.2.2.2.2.2.1, uu.2.2.2.2.2.2)].length) * 120 ≤ 140737488355328) then L_rpru_0 f (l, id, out ++ [uu], (↑(i + 1) : Int)) else none else L_rpru_0 f (l, id, out, (↑(i + 1) : Int)) else none) (fun f => (L_rpru_0_eq f _ _ _ _).trans (by simp only [lt_dec (drop_lt hd), drop_get hd, wrap_succ (drop_lt hd) hl, getD_set (drop_lt hd), ge0, Bool.and_self, Bool.true_and, cond_true, cond_false, List.length_set] <;> rfl)) (ev_chk (ev_bif (ev_chk (A_rpru_0 rest _ _ _ _ (by first | exact drop_succ hd | exact drop_set hd | exact drop_setS (drop_set hd)) (by first | exact hl | simpa using hl))) (A_rpru_0 rest _ _ _ _ (by first | exact drop_succ hd | exact drop_set hd | exact drop_setS (drop_set hd)) (by first | exact hl | simpa using hl))))
noncomputable def F_rpru : ((List (SEn)) × SId) → (List (SEn))
  | (l, id) => F_rpru_0 l (l, id, [], 0)
noncomputable def P_rpru : ((List (SEn)) × SId) → Bool
  | (l, id) => decide (l.length ≤ 1099511627776) && P_rpru_0 l (l, id, [], 0)
theorem rpru_auto : ∀ a : (List (SEn)) × SId, Rns (fun f => M_rpru f a) (P_rpru a) (F_rpru a)
  | (l, id) => ev_step (fun f => M_rpru_eq f _ _) (ev_and fun hh => A_rpru_0 _ _ _ _ _ rfl (of_decide_eq_true hh))
theorem rpru_0 (l : List SEn) (id : SId) : ∀ (r out : List SEn) (k : Nat), (∀ e ∈ r, len40n e.2.2.2.2.2.1 = true) → okE out = true → out.length + r.length ≤ 1099511627776 → F_rpru_0 r (l, id, out, k) = out ++ pruS (r, id) ∧ P_rpru_0 r (l, id, out, k) = true
  | [], out, k, h, ho, hl => ⟨by simp [F_rpru_0, pruS], ho⟩
  | u :: r, out, k, h, ho, hl => by
    simp only [List.length_cons] at hl
    have hu := h u (List.mem_cons_self ..)
    obtain ⟨i1, i2⟩ := rpru_0 l id r (out ++ [u]) (k + 1) (fun e he => h e (List.mem_cons_of_mem _ he)) (okE_app ho (fun e he => by rw [List.mem_singleton.1 he]; exact hu) (by simp; omega)) (by simp; omega)
    obtain ⟨j1, j2⟩ := rpru_0 l id r out (k + 1) (fun e he => h e (List.mem_cons_of_mem _ he)) ho (by omega)
    have e1 : memD id u.2.2.2.2.2.1 = memD id (epath u) := rfl
    simp only [F_rpru_0, P_rpru_0, e1, i1, i2, j1, j2, hu, Bool.true_and, pruS, List.filter_cons]
    cases memD id (epath u)
    · simp only [Bool.not_false, cond_true, if_true, List.append_assoc, List.singleton_append, Bool.and_true, decide_eq_true_eq, true_and]
      simp only [List.length_singleton]; omega
    · exact ⟨rfl, rfl⟩
theorem rpru_P : ∀ a : List SEn × SId, okE a.1 = true → P_rpru a = true := fun a h => by
  simp only [P_rpru, (rpru_0 a.1 a.2 a.1 [] 0 (fun e he => okE_mem h he) rfl (by simpa using okE_len h)).2, Bool.and_true]; exact decide_eq_true (okE_len h)
theorem rpru_F : ∀ a : List SEn × SId, okE a.1 = true → F_rpru a = pruS a := fun a h => by
  simp only [F_rpru, (rpru_0 a.1 a.2 a.1 [] 0 (fun e he => okE_mem h he) rfl (by simpa using okE_len h)).1, List.nil_append]
theorem rpru_run : ∀ a, (fun a => okE a.1 : (List (SEn)) × SId → Bool) a = true → ∃ f, M_rpru f a = some ((pruS : (List (SEn)) × SId → (List (SEn))) a) := fun a h => by have h1 := rpru_auto a (rpru_P a h); rw [rpru_F a h] at h1; exact h1
noncomputable def E_rpru : Ent := ⟨45, [.rd tSEn, .g tSId], [.o 32 13 tSEn], fun a => (fun a => okE a.1 : (List (SEn)) × SId → Bool) a, fun a => (pruS : (List (SEn)) × SId → (List (SEn))) a⟩
theorem E_rpru_ok : E_rpru.Ok Try.prog := fun a hp vs hv => (rpru_run a hp).elim fun f h => fnX_ok (C := C_rpru) (Lt := Lt_rpru) (fn := Try.f45) (rs := [.tmp 4]) [.rd tSEn, .g tSId] [.o 32 13 tSEn] mixed es_rpru Try.func45 rfl rfl rfl (by kernel_rfl) (by kernel_rfl) f h vs hv
noncomputable def C_revi : Cfg := ⟨Try.prog, [E_rcent], pmT [], 29, []⟩
theorem es_revi : EsOk Try.prog [E_rcent] [] := es_cons E_rcent_ok (es_nil)
def Lt_revi : Nat → LD := ldT [(0, ⟨[.rd 0 tSEn, .c 1 (.int .i64), .list 5 999 32 13 tSEn, .c 6 (.int .i64)], []⟩)]
noncomputable def M_revi (f : Nat) (a : (List (SEn)) × Int) : Option ((List (SEn))) := (runX (C_revi) Lt_revi (Kret Try.prog [.tmp 4] [.o 32 13 tSEn]) f [.code (bodyOf Try.f47)] (initX [.rd tSEn, .c (.int .i64)] a) : Option (ResT [.o 32 13 tSEn]))
noncomputable def L_revi_0 (f : Nat) (x : (List (SEn)) × Int × (List (SEn)) × Int) : Option ((List (SEn))) := (runX (C_revi) Lt_revi (Kret Try.prog [.tmp 4] [.o 32 13 tSEn]) f (headOf Try.f47 0) ((Lt_revi 0).mk' x) : Option (ResT [.o 32 13 tSEn]))
theorem M_revi_eq (f : Nat) (l : List (SEn)) (core : Int) : M_revi (f + 1) (l, core) =
    L_revi_0 f (l, core, [], 0) := by kernel_rfl
theorem L_revi_0_eq (f : Nat) (l : List (SEn)) (core : Int) (out : List (SEn)) (i : Int) : L_revi_0 (f + 1) (l, core, out, i) =
    bif decide (i < (↑l.length : Int)) then bif decide (0 ≤ i) && decide (i < (↑l.length : Int)) then bif (l.getD i.toNat (0, 0, 0, 0, 0, [], 0, 0, 0, 0, 0, 0, false)).1 != core then bif decide (0 ≤ i) && decide (i < (↑l.length : Int)) then bif decide ((out.length + [((l.getD i.toNat (0, 0, 0, 0, 0, [], 0, 0, 0, 0, 0, 0, false)).1, (l.getD i.toNat (0, 0, 0, 0, 0, [], 0, 0, 0, 0, 0, 0, false)).2.1, (l.getD i.toNat (0, 0, 0, 0, 0, [], 0, 0, 0, 0, 0, 0, false)).2.2.1, (l.getD i.toNat (0, 0, 0, 0, 0, [], 0, 0, 0, 0, 0, 0, false)).2.2.2.1, (l.getD i.toNat (0, 0, 0, 0, 0, [], 0, 0, 0, 0, 0, 0, false)).2.2.2.2.1, (l.getD i.toNat (0, 0, 0, 0, 0, [], 0, 0, 0, 0, 0, 0, false)).2.2.2.2.2.1, (l.getD i.toNat (0, 0, 0, 0, 0, [], 0, 0, 0, 0, 0, 0, false)).2.2.2.2.2.2)].length) * 120 ≤ 140737488355328) then L_revi_0 f (l, core, out ++ [l.getD i.toNat (0, 0, 0, 0, 0, [], 0, 0, 0, 0, 0, 0, false)], IntKind.i64.wrap (i + 1)) else none else none else L_revi_0 f (l, core, out, IntKind.i64.wrap (i + 1)) else none else bif okE out then some out else none := by kernel_rfl
noncomputable def F_revi_0 : List (SEn) → ((List (SEn)) × Int × (List (SEn)) × Nat) → (List (SEn))
  | [], (l, core, out, i) => out
  | uu :: rest, (l, core, out, i) => bif uu.1 != core then F_revi_0 rest (l, core, out ++ [uu], i + 1) else F_revi_0 rest (l, core, out, i + 1)
noncomputable def P_revi_0 : List (SEn) → ((List (SEn)) × Int × (List (SEn)) × Nat) → Bool
  | [], (l, core, out, i) => okE out
  | uu :: rest, (l, core, out, i) => bif uu.1 != core then decide ((out.length + [(uu.1, uu.2.1, uu.2.2.1, uu.2.2.2.1, uu.2.2.2.2.1, uu.2.2.2.2.2.1, uu.2.2.2.2.2.2)].length) * 120 ≤ 140737488355328) && P_revi_0 rest (l, core, out ++ [uu], i + 1) else P_revi_0 rest (l, core, out, i + 1)
theorem A_revi_0 : ∀ (rest : List (SEn)) (l : List (SEn)) (core : Int) (out : List (SEn)) (i : Nat) (hd : l.drop i = rest) (hl : l.length ≤ 1099511627776), Rns (fun f => L_revi_0 f (l, core, out, ((i : Nat) : Int))) (P_revi_0 rest (l, core, out, i)) (F_revi_0 rest (l, core, out, i))
  | [], l, core, out, i, hd, hl => ev_step (T := fun f => bif okE out then some out else none) (fun f => (L_revi_0_eq f _ _ _ _).trans (by simp only [ge_dec (drop_ge hd), ge0, Bool.and_self, Bool.true_and, cond_true, cond_false, List.length_set] <;> rfl)) (ev_chk1 ev_some)
  | uu :: rest, l, core, out, i, hd, hl => ev_step (T := fun f => bif uu.1 != core then bif decide ((out.length + [(uu.1, uu.2.1, uu.2.2.1, uu.2.2.2.1, uu.2.2.2.2.1, uu.2.2.2.2.2.1, uu.2.2.2.2.2.2)].length) * 120 ≤ 140737488355328) then L_revi_0 f (l, core, out ++ [uu], (↑(i + 1) : Int)) else none else L_revi_0 f (l, core, out, (↑(i + 1) : Int))) (fun f => (L_revi_0_eq f _ _ _ _).trans (by simp only [lt_dec (drop_lt hd), drop_get hd, wrap_succ (drop_lt hd) hl, getD_set (drop_lt hd), ge0, Bool.and_self, Bool.true_and, cond_true, cond_false, List.length_set] <;> rfl)) (ev_bif (ev_chk (A_revi_0 rest _ _ _ _ (by first | exact drop_succ hd | exact drop_set hd | exact drop_setS (drop_set hd)) (by first | exact hl | simpa using hl))) (A_revi_0 rest _ _ _ _ (by first | exact drop_succ hd | exact drop_set hd | exact drop_setS (drop_set hd)) (by first | exact hl | simpa using hl)))
noncomputable def F_revi : ((List (SEn)) × Int) → (List (SEn))
  | (l, core) => F_revi_0 l (l, core, [], 0)
noncomputable def P_revi : ((List (SEn)) × Int) → Bool
  | (l, core) => decide (l.length ≤ 1099511627776) && P_revi_0 l (l, core, [], 0)
theorem revi_auto : ∀ a : (List (SEn)) × Int, Rns (fun f => M_revi f a) (P_revi a) (F_revi a)
  | (l, core) => ev_step (fun f => M_revi_eq f _ _) (ev_and fun hh => A_revi_0 _ _ _ _ _ rfl (of_decide_eq_true hh))
theorem revi_0 (l : List SEn) (c : Int) : ∀ (r out : List SEn) (k : Nat), (∀ e ∈ r, len40n e.2.2.2.2.2.1 = true) → okE out = true → out.length + r.length ≤ 1099511627776 → F_revi_0 r (l, c, out, k) = out ++ eviS (r, c) ∧ P_revi_0 r (l, c, out, k) = true
  | [], out, k, h, ho, hl => ⟨by simp [F_revi_0, eviS], ho⟩
  | u :: r, out, k, h, ho, hl => by
    simp only [List.length_cons] at hl
    have hu := h u (List.mem_cons_self ..)
    obtain ⟨i1, i2⟩ := revi_0 l c r (out ++ [u]) (k + 1) (fun e he => h e (List.mem_cons_of_mem _ he)) (okE_app ho (fun e he => by rw [List.mem_singleton.1 he]; exact hu) (by simp; omega)) (by simp; omega)
    obtain ⟨j1, j2⟩ := revi_0 l c r out (k + 1) (fun e he => h e (List.mem_cons_of_mem _ he)) ho (by omega)
    simp only [F_revi_0, P_revi_0, i1, i2, j1, j2, eviS, List.filter_cons]
    cases u.1 != c
    · exact ⟨rfl, rfl⟩
    · simp only [cond_true, if_true, List.append_assoc, List.singleton_append, Bool.and_true, decide_eq_true_eq, true_and]
      simp only [List.length_singleton]; omega
theorem revi_P : ∀ a : List SEn × Int, okE a.1 = true → P_revi a = true := fun a h => by
  simp only [P_revi, (revi_0 a.1 a.2 a.1 [] 0 (fun e he => okE_mem h he) rfl (by simpa using okE_len h)).2, Bool.and_true]; exact decide_eq_true (okE_len h)
theorem revi_F : ∀ a : List SEn × Int, okE a.1 = true → F_revi a = eviS a := fun a h => by
  simp only [F_revi, (revi_0 a.1 a.2 a.1 [] 0 (fun e he => okE_mem h he) rfl (by simpa using okE_len h)).1, List.nil_append]
theorem revi_run : ∀ a, (fun a => okE a.1 : (List (SEn)) × Int → Bool) a = true → ∃ f, M_revi f a = some ((eviS : (List (SEn)) × Int → (List (SEn))) a) := fun a h => by have h1 := revi_auto a (revi_P a h); rw [revi_F a h] at h1; exact h1
noncomputable def E_revi : Ent := ⟨47, [.rd tSEn, .c (.int .i64)], [.o 32 13 tSEn], fun a => (fun a => okE a.1 : (List (SEn)) × Int → Bool) a, fun a => (eviS : (List (SEn)) × Int → (List (SEn))) a⟩
theorem E_revi_ok : E_revi.Ok Try.prog := fun a hp vs hv => (revi_run a hp).elim fun f h => fnX_ok (C := C_revi) (Lt := Lt_revi) (fn := Try.f47) (rs := [.tmp 4]) [.rd tSEn, .c (.int .i64)] [.o 32 13 tSEn] mixed es_revi Try.func47 rfl rfl rfl (by kernel_rfl) (by kernel_rfl) f h vs hv
noncomputable def C_few : Cfg := ⟨Try.prog, [], pmT [], 25, []⟩
theorem es_few : EsOk Try.prog [] [] := es_nil
def Lt_few : Nat → LD := ldT [(0, ⟨[.rd 0 tSEn, .c 3 (.int .i64)], []⟩)]
noncomputable def M_few (f : Nat) (a : (List (SEn))) : Option (Bool) := (runX (C_few) Lt_few (Kret Try.prog [.tmp 2] [.v (.bool)]) f [.code (bodyOf Try.f13)] (initX [.rd tSEn] a) : Option (ResT [.v (.bool)]))
noncomputable def L_few_0 (f : Nat) (x : (List (SEn)) × Int) : Option (Bool) := (runX (C_few) Lt_few (Kret Try.prog [.tmp 2] [.v (.bool)]) f (headOf Try.f13 0) ((Lt_few 0).mk' x) : Option (ResT [.v (.bool)]))
theorem M_few_eq (f : Nat) (l : List (SEn)) : M_few (f + 1) l =
    L_few_0 f (l, 0) := by kernel_rfl
theorem L_few_0_eq (f : Nat) (l : List (SEn)) (i : Int) : L_few_0 (f + 1) (l, i) =
    bif decide (i < (↑l.length : Int)) then bif decide (i < 50) then bif decide (0 ≤ i) && decide (i < (↑l.length : Int)) then bif decide ((↑(List.length (l.getD i.toNat (0, 0, 0, 0, 0, [], 0, 0, 0, 0, 0, 0, false)).2.2.2.2.2.1) : Int) > 20) then some false else L_few_0 f (l, IntKind.i64.wrap (i + 1)) else none else some (decide ((↑l.length : Int) ≤ 40)) else some (decide ((↑l.length : Int) ≤ 40)) := by kernel_rfl
noncomputable def F_few_0 : List (SEn) → ((List (SEn)) × Nat) → Bool
  | [], (l, i) => decide ((↑l.length : Int) ≤ 40)
  | uu :: rest, (l, i) => bif decide ((↑i : Int) < 50) then bif decide ((↑(List.length uu.2.2.2.2.2.1) : Int) > 20) then false else F_few_0 rest (l, i + 1) else decide ((↑l.length : Int) ≤ 40)
noncomputable def P_few_0 : List (SEn) → ((List (SEn)) × Nat) → Bool
  | [], (l, i) => true
  | uu :: rest, (l, i) => bif decide ((↑i : Int) < 50) then bif decide ((↑(List.length uu.2.2.2.2.2.1) : Int) > 20) then true else P_few_0 rest (l, i + 1) else true
theorem A_few_0 : ∀ (rest : List (SEn)) (l : List (SEn)) (i : Nat) (hd : l.drop i = rest) (hl : l.length ≤ 1099511627776), Rns (fun f => L_few_0 f (l, ((i : Nat) : Int))) (P_few_0 rest (l, i)) (F_few_0 rest (l, i))
  | [], l, i, hd, hl => ev_step (T := fun f => some (decide ((↑l.length : Int) ≤ 40))) (fun f => (L_few_0_eq f _ _).trans (by simp only [ge_dec (drop_ge hd), ge0, Bool.and_self, Bool.true_and, cond_true, cond_false, List.length_set] <;> rfl)) ev_some
  | uu :: rest, l, i, hd, hl => ev_step (T := fun f => bif decide ((↑i : Int) < 50) then bif decide ((↑(List.length uu.2.2.2.2.2.1) : Int) > 20) then some false else L_few_0 f (l, (↑(i + 1) : Int)) else some (decide ((↑l.length : Int) ≤ 40))) (fun f => (L_few_0_eq f _ _).trans (by simp only [lt_dec (drop_lt hd), drop_get hd, wrap_succ (drop_lt hd) hl, getD_set (drop_lt hd), ge0, Bool.and_self, Bool.true_and, cond_true, cond_false, List.length_set] <;> rfl)) (ev_bif (ev_bif ev_some (A_few_0 rest _ _ (by first | exact drop_succ hd | exact drop_set hd | exact drop_setS (drop_set hd)) (by first | exact hl | simpa using hl))) ev_some)
noncomputable def F_few : (List (SEn)) → Bool
  | l => F_few_0 l (l, 0)
noncomputable def P_few : (List (SEn)) → Bool
  | l => decide (l.length ≤ 1099511627776) && P_few_0 l (l, 0)
theorem few_auto : ∀ a : (List (SEn)), Rns (fun f => M_few f a) (P_few a) (F_few a)
  | l => ev_step (fun f => M_few_eq f _) (ev_and fun hh => A_few_0 _ _ _ rfl (of_decide_eq_true hh))
theorem few_loop : ∀ (rest pre : List SEn), pre.length ≤ 50 → ∃ f, L_few_0 f (pre ++ rest, ((pre.length : Nat) : Int)) = some (F_few_0 rest (pre ++ rest, pre.length))
  | [], pre, hp => ⟨1, (L_few_0_eq 0 _ _).trans (by rw [lt_end]; rfl)⟩
  | u :: rest, pre, hp => by
    have e1 : IntKind.i64.wrap (((pre.length : Nat) : Int) + 1) = ((pre.length + 1 : Nat) : Int) := by rw [i64_id (by omega) (by omega)]; rfl
    by_cases h1 : ((pre.length : Nat) : Int) < 50
    case neg =>
      refine ⟨1, (L_few_0_eq 0 _ _).trans ?_⟩
      rw [lt_mid]
      simp only [F_few_0, decide_eq_false h1]; rfl
    by_cases h2 : ((u.2.2.2.2.2.1.length : Nat) : Int) > 20
    · refine ⟨1, (L_few_0_eq 0 _ _).trans ?_⟩
      rw [lt_mid, getD_mid, ge0]
      simp only [F_few_0, decide_eq_true h1, decide_eq_true h2]; rfl
    obtain ⟨f, hf⟩ := few_loop rest (pre ++ [u]) (by simp; omega)
    refine ⟨f + 1, (L_few_0_eq f _ _).trans ?_⟩
    rw [lt_mid, getD_mid, ge0, e1]
    simp only [F_few_0, decide_eq_true h1, decide_eq_false h2, cond_true, cond_false, Bool.and_self]
    rw [show (pre ++ [u]).length = pre.length + 1 by simp, List.append_assoc] at hf
    exact hf
theorem few_run : ∀ a, (fun _ => true) a = true → ∃ f, M_few f a = some (F_few a) := fun a _ => by
  obtain ⟨f, hf⟩ := few_loop a [] (by simp)
  exact ⟨f + 1, (M_few_eq f _).trans hf⟩
noncomputable def E_few : Ent := ⟨13, [.rd tSEn], [.v (.bool)], fun a => (fun _ => true : (List (SEn)) → Bool) a, fun a => (F_few : (List (SEn)) → Bool) a⟩
theorem E_few_ok : E_few.Ok Try.prog := fun a hp vs hv => (few_run a hp).elim fun f h => fnX_ok (C := C_few) (Lt := Lt_few) (fn := Try.f13) (rs := [.tmp 2]) [.rd tSEn] [.v (.bool)] mixed es_few Try.func13 rfl rfl rfl (by kernel_rfl) (by kernel_rfl) f h vs hv
theorem few_0 (l : List SEn) : ∀ (r p : List SEn), l = p ++ r → F_few_0 r (l, p.length) = true → l.length ≤ 40 ∧ ∀ e ∈ r, (epath e).length ≤ 20
  | [], p, hl, h => by
    simp only [F_few_0, decide_eq_true_eq] at h
    exact ⟨by omega, fun e he => by cases he⟩
  | u :: r, p, hl, h => by
    simp only [F_few_0] at h
    by_cases h5 : ((p.length : Nat) : Int) < 50
    · rw [decide_eq_true h5, cond_true] at h
      by_cases h2 : ((u.2.2.2.2.2.1.length : Nat) : Int) > 20
      · rw [decide_eq_true h2] at h; cases h
      · rw [decide_eq_false h2, cond_false] at h
        obtain ⟨i1, i2⟩ := few_0 l r (p ++ [u]) (by simpa using hl) (by simpa using h)
        refine ⟨i1, fun e he => ?_⟩
        rcases List.mem_cons.1 he with rfl | he
        · show (e.2.2.2.2.2.1).length ≤ 20; omega
        · exact i2 e he
    · rw [decide_eq_false h5, cond_false, decide_eq_true_eq] at h
      rw [hl] at h; simp at h; omega
theorem few_ok {l : List SEn} (h : F_few l = true) : l.length ≤ 40 ∧ (∀ e ∈ l, (epath e).length ≤ 20) ∧ okF l = true := by
  obtain ⟨h1, h2⟩ := few_0 l l [] rfl h
  refine ⟨h1, h2, ?_⟩
  simp only [okF, Bool.and_eq_true]
  exact ⟨decide_eq_true (by omega), okE_mk (by omega) fun e he => decide_eq_true (by have := h2 e he; show (epath e).length ≤ _; omega)⟩
noncomputable def C_clp : Cfg := ⟨Try.prog, [E_below], pmT [], 9, []⟩
theorem es_clp : EsOk Try.prog [E_below] [] := es_cons E_below_ok (es_nil)
def Lt_clp : Nat → LD := ldT []
noncomputable def M_clp (f : Nat) (a : SEn × SId) : Option (Bool) := (runX (C_clp) Lt_clp (Kret Try.prog [.tmp 3] [.v (.bool)]) f [.code (bodyOf Try.f82)] (initX [.g tSEn, .cp tSId] a) : Option (ResT [.v (.bool)]))
theorem M_clp_eq (f : Nat) (e : SEn) (id : SId) : M_clp (f + 1) (e, id) =
    bif len40n (npath e.2.2) then some !memD id (npath e.2.2) else none := by kernel_rfl
noncomputable def F_clp : (SEn × SId) → Bool
  | (e, id) => !memD id (npath e.2.2)
noncomputable def P_clp : (SEn × SId) → Bool
  | (e, id) => len40n (npath e.2.2)
theorem clp_auto : ∀ a : SEn × SId, Rns (fun f => M_clp f a) (P_clp a) (F_clp a)
  | (e, id) => ev_step (fun f => M_clp_eq f _ _) (ev_chk1 ev_some)
theorem clp_P : ∀ a : SEn × SId, len40n (epath a.1) = true → P_clp a = true := fun a h => h
theorem clp_F : ∀ a : SEn × SId, len40n (epath a.1) = true → F_clp a = !memD a.2 (epath a.1) := fun a _ => rfl
theorem clp_run : ∀ a, (fun a => len40n (epath a.1) : SEn × SId → Bool) a = true → ∃ f, M_clp f a = some ((fun a => !memD a.2 (epath a.1) : SEn × SId → Bool) a) := fun a h => by have h1 := clp_auto a (clp_P a h); rw [clp_F a h] at h1; exact h1
noncomputable def E_clp : Ent := ⟨82, [.g tSEn, .cp tSId], [.v (.bool)], fun a => (fun a => len40n (epath a.1) : SEn × SId → Bool) a, fun a => (fun a => !memD a.2 (epath a.1) : SEn × SId → Bool) a⟩
theorem E_clp_ok : E_clp.Ok Try.prog := fun a hp vs hv => (clp_run a hp).elim fun f h => fnX_ok (C := C_clp) (Lt := Lt_clp) (fn := Try.f82) (rs := [.tmp 3]) [.g tSEn, .cp tSId] [.v (.bool)] mixed es_clp Try.func82 rfl rfl rfl (by kernel_rfl) (by kernel_rfl) f h vs hv
noncomputable def C_cle : Cfg := ⟨Try.prog, [], pmT [], 8, []⟩
theorem es_cle : EsOk Try.prog [] [] := es_nil
def Lt_cle : Nat → LD := ldT []
noncomputable def M_cle (f : Nat) (a : SEn × Int) : Option (Bool) := (runX (C_cle) Lt_cle (Kret Try.prog [.tmp 3] [.v (.bool)]) f [.code (bodyOf Try.f83)] (initX [.g tSEn, .cp [.int .i64]] a) : Option (ResT [.v (.bool)]))
theorem M_cle_eq (f : Nat) (e : SEn) (core : Int) : M_cle (f + 1) (e, core) =
    some (e.1 != core) := by kernel_rfl
noncomputable def F_cle : (SEn × Int) → Bool
  | (e, core) => e.1 != core
noncomputable def P_cle : (SEn × Int) → Bool
  | (e, core) => true
theorem cle_auto : ∀ a : SEn × Int, Rns (fun f => M_cle f a) (P_cle a) (F_cle a)
  | (e, core) => ev_step (fun f => M_cle_eq f _ _) ev_some
theorem cle_P : ∀ a : SEn × Int, (fun _ => true) a = true → P_cle a = true := fun a h => rfl
theorem cle_F : ∀ a : SEn × Int, (fun _ => true) a = true → F_cle a = (a.1.1 != a.2) := fun a _ => rfl
theorem cle_run : ∀ a, (fun _ => true : SEn × Int → Bool) a = true → ∃ f, M_cle f a = some ((fun a => a.1.1 != a.2 : SEn × Int → Bool) a) := fun a h => by have h1 := cle_auto a (cle_P a h); rw [cle_F a h] at h1; exact h1
noncomputable def E_cle : Ent := ⟨83, [.g tSEn, .cp [.int .i64]], [.v (.bool)], fun a => (fun _ => true : SEn × Int → Bool) a, fun a => (fun a => a.1.1 != a.2 : SEn × Int → Bool) a⟩
theorem E_cle_ok : E_cle.Ok Try.prog := fun a hp vs hv => (cle_run a hp).elim fun f h => fnX_ok (C := C_cle) (Lt := Lt_cle) (fn := Try.f83) (rs := [.tmp 3]) [.g tSEn, .cp [.int .i64]] [.v (.bool)] mixed es_cle Try.func83 rfl rfl rfl (by kernel_rfl) (by kernel_rfl) f h vs hv
noncomputable def C_flp : Cfg := ⟨Try.prog, [E_ncop, E_clp], pmT [], 27, []⟩
theorem es_flp : EsOk Try.prog [E_ncop, E_clp] [] := es_cons E_ncop_ok (es_cons E_clp_ok (es_nil))
def Lt_flp : Nat → LD := ldT [(0, ⟨[.fn 1 82 [tSId], .list 5 999 32 13 tSEn, .rd 8 tSEn, .c 9 (.int .i64), .c 10 (.int .i64)], []⟩)]
noncomputable def M_flp (f : Nat) (a : (List (SEn)) × SId) : Option ((List (SEn))) := (runX (C_flp) Lt_flp (Kret Try.prog [.tmp 4] [.o 32 13 tSEn]) f [.code (bodyOf Try.f81)] (initX [.rd tSEn, .fn 82 [tSId]] a) : Option (ResT [.o 32 13 tSEn]))
noncomputable def L_flp_0 (f : Nat) (x : SId × (List (SEn)) × (List (SEn)) × Int × Int) : Option ((List (SEn))) := (runX (C_flp) Lt_flp (Kret Try.prog [.tmp 4] [.o 32 13 tSEn]) f (headOf Try.f81 0) ((Lt_flp 0).mk' x) : Option (ResT [.o 32 13 tSEn]))
theorem M_flp_eq (f : Nat) (l : List (SEn)) (keep : SId) : M_flp (f + 1) (l, keep) =
    L_flp_0 f (keep, [], l, (↑l.length : Int), 0) := by kernel_rfl
theorem L_flp_0_eq (f : Nat) (keep : SId) (out : List (SEn)) (x8 : List (SEn)) (x9 : Int) (x10 : Int) : L_flp_0 (f + 1) (keep, out, x8, x9, x10) =
    bif decide (x10 < x9) then bif decide (0 ≤ x10) && decide (x10 < (↑x8.length : Int)) then bif len40n (epath (x8.getD x10.toNat (0, 0, 0, 0, 0, [], 0, 0, 0, 0, 0, 0, false))) then bif !memD keep (epath (x8.getD x10.toNat (0, 0, 0, 0, 0, [], 0, 0, 0, 0, 0, 0, false))) then bif len40n (x8.getD x10.toNat (0, 0, 0, 0, 0, [], 0, 0, 0, 0, 0, 0, false)).2.2.2.2.2.1 then bif decide ((out.length + [((x8.getD x10.toNat (0, 0, 0, 0, 0, [], 0, 0, 0, 0, 0, 0, false)).1, (x8.getD x10.toNat (0, 0, 0, 0, 0, [], 0, 0, 0, 0, 0, 0, false)).2.1, (x8.getD x10.toNat (0, 0, 0, 0, 0, [], 0, 0, 0, 0, 0, 0, false)).2.2)].length) * 120 ≤ 140737488355328) then L_flp_0 f (keep, out ++ [x8.getD x10.toNat (0, 0, 0, 0, 0, [], 0, 0, 0, 0, 0, 0, false)], x8, x9, IntKind.i64.wrap (x10 + 1)) else none else none else L_flp_0 f (keep, out, x8, x9, IntKind.i64.wrap (x10 + 1)) else none else none else some out := by kernel_rfl
noncomputable def F_flp_0 : List (SEn) → (SId × (List (SEn)) × (List (SEn)) × Int × Nat) → (List (SEn))
  | [], (keep, out, x8, x9, x10) => out
  | uu :: rest, (keep, out, x8, x9, x10) => bif !memD keep (epath uu) then F_flp_0 rest (keep, out ++ [uu], x8, x9, x10 + 1) else F_flp_0 rest (keep, out, x8, x9, x10 + 1)
noncomputable def P_flp_0 : List (SEn) → (SId × (List (SEn)) × (List (SEn)) × Int × Nat) → Bool
  | [], (keep, out, x8, x9, x10) => true
  | uu :: rest, (keep, out, x8, x9, x10) => len40n (epath uu) && bif !memD keep (epath uu) then len40n uu.2.2.2.2.2.1 && (decide ((out.length + [(uu.1, uu.2.1, uu.2.2)].length) * 120 ≤ 140737488355328) && P_flp_0 rest (keep, out ++ [uu], x8, x9, x10 + 1)) else P_flp_0 rest (keep, out, x8, x9, x10 + 1)
theorem A_flp_0 : ∀ (rest : List (SEn)) (keep : SId) (out : List (SEn)) (x8 : List (SEn)) (x9 : Int) (x10 : Nat) (hd : x8.drop x10 = rest) (hn : x9 = ((x8.length : Nat) : Int)) (hl : x8.length ≤ 1099511627776), Rns (fun f => L_flp_0 f (keep, out, x8, x9, ((x10 : Nat) : Int))) (P_flp_0 rest (keep, out, x8, x9, x10)) (F_flp_0 rest (keep, out, x8, x9, x10))
  | [], keep, out, x8, x9, x10, hd, hn, hl => ev_step (T := fun f => some out) (fun f => (L_flp_0_eq f _ _ _ _ _).trans (by simp only [ge_decn hn (drop_ge hd), ge0, Bool.and_self, Bool.true_and, cond_true, cond_false, List.length_set] <;> rfl)) ev_some
  | uu :: rest, keep, out, x8, x9, x10, hd, hn, hl => ev_step (T := fun f => bif len40n (epath uu) then bif !memD keep (epath uu) then bif len40n uu.2.2.2.2.2.1 then bif decide ((out.length + [(uu.1, uu.2.1, uu.2.2)].length) * 120 ≤ 140737488355328) then L_flp_0 f (keep, out ++ [uu], x8, x9, (↑(x10 + 1) : Int)) else none else none else L_flp_0 f (keep, out, x8, x9, (↑(x10 + 1) : Int)) else none) (fun f => (L_flp_0_eq f _ _ _ _ _).trans (by simp only [lt_decn hn (drop_lt hd), lt_dec (drop_lt hd), drop_get hd, wrap_succ (drop_lt hd) hl, getD_set (drop_lt hd), ge0, Bool.and_self, Bool.true_and, cond_true, cond_false, List.length_set] <;> rfl)) (ev_chk (ev_bif (ev_chk (ev_chk (A_flp_0 rest _ _ _ _ _ (by first | exact drop_succ hd | exact drop_set hd | exact drop_setS (drop_set hd)) (by first | exact hn | simpa using hn) (by first | exact hl | simpa using hl)))) (A_flp_0 rest _ _ _ _ _ (by first | exact drop_succ hd | exact drop_set hd | exact drop_setS (drop_set hd)) (by first | exact hn | simpa using hn) (by first | exact hl | simpa using hl))))
noncomputable def F_flp : ((List (SEn)) × SId) → (List (SEn))
  | (l, keep) => F_flp_0 l (keep, [], l, (↑l.length : Int), 0)
noncomputable def P_flp : ((List (SEn)) × SId) → Bool
  | (l, keep) => decide (l.length ≤ 1099511627776) && P_flp_0 l (keep, [], l, (↑l.length : Int), 0)
theorem flp_auto : ∀ a : (List (SEn)) × SId, Rns (fun f => M_flp f a) (P_flp a) (F_flp a)
  | (l, keep) => ev_step (fun f => M_flp_eq f _ _) (ev_and fun hh => A_flp_0 _ _ _ _ _ _ rfl (by first | rfl | simp) (of_decide_eq_true hh))
theorem flp_0 (l : List SEn) (id : SId) (x : Int) : ∀ (r out : List SEn) (k : Nat), (∀ e ∈ r, len40n e.2.2.2.2.2.1 = true) → out.length + r.length ≤ 1099511627776 → F_flp_0 r (id, out, l, x, k) = out ++ pruS (r, id) ∧ P_flp_0 r (id, out, l, x, k) = true
  | [], out, k, h, hl => ⟨by simp [F_flp_0, pruS], rfl⟩
  | u :: r, out, k, h, hl => by
    simp only [List.length_cons] at hl
    have hu : len40n (epath u) = true := h u (List.mem_cons_self ..)
    have hu2 : len40n u.2.2.2.2.2.1 = true := hu
    obtain ⟨i1, i2⟩ := flp_0 l id x r (out ++ [u]) (k + 1) (fun e he => h e (List.mem_cons_of_mem _ he)) (by simp; omega)
    obtain ⟨j1, j2⟩ := flp_0 l id x r out (k + 1) (fun e he => h e (List.mem_cons_of_mem _ he)) (by omega)
    simp only [F_flp_0, P_flp_0, i1, i2, j1, j2, hu, hu2, Bool.true_and, pruS, List.filter_cons]
    cases memD id (epath u)
    · simp only [Bool.not_false, cond_true, if_true, List.append_assoc, List.singleton_append, Bool.and_true, decide_eq_true_eq, true_and]
      simp only [List.length_singleton]; omega
    · exact ⟨rfl, rfl⟩
theorem flp_P : ∀ a : List SEn × SId, okE a.1 = true → P_flp a = true := fun a h => by
  simp only [P_flp, (flp_0 a.1 a.2 _ a.1 [] 0 (fun e he => okE_mem h he) (by simpa using okE_len h)).2, Bool.and_true]; exact decide_eq_true (okE_len h)
theorem flp_F : ∀ a : List SEn × SId, okE a.1 = true → F_flp a = pruS a := fun a h => by
  simp only [F_flp, (flp_0 a.1 a.2 _ a.1 [] 0 (fun e he => okE_mem h he) (by simpa using okE_len h)).1, List.nil_append]
theorem flp_run : ∀ a, (fun a => okE a.1 : (List (SEn)) × SId → Bool) a = true → ∃ f, M_flp f a = some ((pruS : (List (SEn)) × SId → (List (SEn))) a) := fun a h => by have h1 := flp_auto a (flp_P a h); rw [flp_F a h] at h1; exact h1
noncomputable def E_flp : Ent := ⟨81, [.rd tSEn, .fn 82 [tSId]], [.o 32 13 tSEn], fun a => (fun a => okE a.1 : (List (SEn)) × SId → Bool) a, fun a => (pruS : (List (SEn)) × SId → (List (SEn))) a⟩
theorem E_flp_ok : E_flp.Ok Try.prog := fun a hp vs hv => (flp_run a hp).elim fun f h => fnX_ok (C := C_flp) (Lt := Lt_flp) (fn := Try.f81) (rs := [.tmp 4]) [.rd tSEn, .fn 82 [tSId]] [.o 32 13 tSEn] mixed es_flp Try.func81 rfl rfl rfl (by kernel_rfl) (by kernel_rfl) f h vs hv
noncomputable def C_fle : Cfg := ⟨Try.prog, [E_ncop, E_cle], pmT [], 27, []⟩
theorem es_fle : EsOk Try.prog [E_ncop, E_cle] [] := es_cons E_ncop_ok (es_cons E_cle_ok (es_nil))
def Lt_fle : Nat → LD := ldT [(0, ⟨[.fn 1 83 [[.int .i64]], .list 5 999 32 13 tSEn, .rd 8 tSEn, .c 9 (.int .i64), .c 10 (.int .i64)], []⟩)]
noncomputable def M_fle (f : Nat) (a : (List (SEn)) × Int) : Option ((List (SEn))) := (runX (C_fle) Lt_fle (Kret Try.prog [.tmp 4] [.o 32 13 tSEn]) f [.code (bodyOf Try.f81)] (initX [.rd tSEn, .fn 83 [[.int .i64]]] a) : Option (ResT [.o 32 13 tSEn]))
noncomputable def L_fle_0 (f : Nat) (x : Int × (List (SEn)) × (List (SEn)) × Int × Int) : Option ((List (SEn))) := (runX (C_fle) Lt_fle (Kret Try.prog [.tmp 4] [.o 32 13 tSEn]) f (headOf Try.f81 0) ((Lt_fle 0).mk' x) : Option (ResT [.o 32 13 tSEn]))
theorem M_fle_eq (f : Nat) (l : List (SEn)) (keep : Int) : M_fle (f + 1) (l, keep) =
    L_fle_0 f (keep, [], l, (↑l.length : Int), 0) := by kernel_rfl
theorem L_fle_0_eq (f : Nat) (keep : Int) (out : List (SEn)) (x8 : List (SEn)) (x9 : Int) (x10 : Int) : L_fle_0 (f + 1) (keep, out, x8, x9, x10) =
    bif decide (x10 < x9) then bif decide (0 ≤ x10) && decide (x10 < (↑x8.length : Int)) then bif (x8.getD x10.toNat (0, 0, 0, 0, 0, [], 0, 0, 0, 0, 0, 0, false)).1 != keep then bif len40n (x8.getD x10.toNat (0, 0, 0, 0, 0, [], 0, 0, 0, 0, 0, 0, false)).2.2.2.2.2.1 then bif decide ((out.length + [((x8.getD x10.toNat (0, 0, 0, 0, 0, [], 0, 0, 0, 0, 0, 0, false)).1, (x8.getD x10.toNat (0, 0, 0, 0, 0, [], 0, 0, 0, 0, 0, 0, false)).2.1, (x8.getD x10.toNat (0, 0, 0, 0, 0, [], 0, 0, 0, 0, 0, 0, false)).2.2)].length) * 120 ≤ 140737488355328) then L_fle_0 f (keep, out ++ [x8.getD x10.toNat (0, 0, 0, 0, 0, [], 0, 0, 0, 0, 0, 0, false)], x8, x9, IntKind.i64.wrap (x10 + 1)) else none else none else L_fle_0 f (keep, out, x8, x9, IntKind.i64.wrap (x10 + 1)) else none else some out := by kernel_rfl
noncomputable def F_fle_0 : List (SEn) → (Int × (List (SEn)) × (List (SEn)) × Int × Nat) → (List (SEn))
  | [], (keep, out, x8, x9, x10) => out
  | uu :: rest, (keep, out, x8, x9, x10) => bif uu.1 != keep then F_fle_0 rest (keep, out ++ [uu], x8, x9, x10 + 1) else F_fle_0 rest (keep, out, x8, x9, x10 + 1)
noncomputable def P_fle_0 : List (SEn) → (Int × (List (SEn)) × (List (SEn)) × Int × Nat) → Bool
  | [], (keep, out, x8, x9, x10) => true
  | uu :: rest, (keep, out, x8, x9, x10) => bif uu.1 != keep then len40n uu.2.2.2.2.2.1 && (decide ((out.length + [(uu.1, uu.2.1, uu.2.2)].length) * 120 ≤ 140737488355328) && P_fle_0 rest (keep, out ++ [uu], x8, x9, x10 + 1)) else P_fle_0 rest (keep, out, x8, x9, x10 + 1)
theorem A_fle_0 : ∀ (rest : List (SEn)) (keep : Int) (out : List (SEn)) (x8 : List (SEn)) (x9 : Int) (x10 : Nat) (hd : x8.drop x10 = rest) (hn : x9 = ((x8.length : Nat) : Int)) (hl : x8.length ≤ 1099511627776), Rns (fun f => L_fle_0 f (keep, out, x8, x9, ((x10 : Nat) : Int))) (P_fle_0 rest (keep, out, x8, x9, x10)) (F_fle_0 rest (keep, out, x8, x9, x10))
  | [], keep, out, x8, x9, x10, hd, hn, hl => ev_step (T := fun f => some out) (fun f => (L_fle_0_eq f _ _ _ _ _).trans (by simp only [ge_decn hn (drop_ge hd), ge0, Bool.and_self, Bool.true_and, cond_true, cond_false, List.length_set] <;> rfl)) ev_some
  | uu :: rest, keep, out, x8, x9, x10, hd, hn, hl => ev_step (T := fun f => bif uu.1 != keep then bif len40n uu.2.2.2.2.2.1 then bif decide ((out.length + [(uu.1, uu.2.1, uu.2.2)].length) * 120 ≤ 140737488355328) then L_fle_0 f (keep, out ++ [uu], x8, x9, (↑(x10 + 1) : Int)) else none else none else L_fle_0 f (keep, out, x8, x9, (↑(x10 + 1) : Int))) (fun f => (L_fle_0_eq f _ _ _ _ _).trans (by simp only [lt_decn hn (drop_lt hd), lt_dec (drop_lt hd), drop_get hd, wrap_succ (drop_lt hd) hl, getD_set (drop_lt hd), ge0, Bool.and_self, Bool.true_and, cond_true, cond_false, List.length_set] <;> rfl)) (ev_bif (ev_chk (ev_chk (A_fle_0 rest _ _ _ _ _ (by first | exact drop_succ hd | exact drop_set hd | exact drop_setS (drop_set hd)) (by first | exact hn | simpa using hn) (by first | exact hl | simpa using hl)))) (A_fle_0 rest _ _ _ _ _ (by first | exact drop_succ hd | exact drop_set hd | exact drop_setS (drop_set hd)) (by first | exact hn | simpa using hn) (by first | exact hl | simpa using hl)))
noncomputable def F_fle : ((List (SEn)) × Int) → (List (SEn))
  | (l, keep) => F_fle_0 l (keep, [], l, (↑l.length : Int), 0)
noncomputable def P_fle : ((List (SEn)) × Int) → Bool
  | (l, keep) => decide (l.length ≤ 1099511627776) && P_fle_0 l (keep, [], l, (↑l.length : Int), 0)
theorem fle_auto : ∀ a : (List (SEn)) × Int, Rns (fun f => M_fle f a) (P_fle a) (F_fle a)
  | (l, keep) => ev_step (fun f => M_fle_eq f _ _) (ev_and fun hh => A_fle_0 _ _ _ _ _ _ rfl (by first | rfl | simp) (of_decide_eq_true hh))
theorem fle_0 (l : List SEn) (c : Int) (x : Int) : ∀ (r out : List SEn) (k : Nat), (∀ e ∈ r, len40n e.2.2.2.2.2.1 = true) → out.length + r.length ≤ 1099511627776 → F_fle_0 r (c, out, l, x, k) = out ++ eviS (r, c) ∧ P_fle_0 r (c, out, l, x, k) = true
  | [], out, k, h, hl => ⟨by simp [F_fle_0, eviS], rfl⟩
  | u :: r, out, k, h, hl => by
    simp only [List.length_cons] at hl
    have hu : len40n (epath u) = true := h u (List.mem_cons_self ..)
    have hu2 : len40n u.2.2.2.2.2.1 = true := hu
    obtain ⟨i1, i2⟩ := fle_0 l c x r (out ++ [u]) (k + 1) (fun e he => h e (List.mem_cons_of_mem _ he)) (by simp; omega)
    obtain ⟨j1, j2⟩ := fle_0 l c x r out (k + 1) (fun e he => h e (List.mem_cons_of_mem _ he)) (by omega)
    simp only [F_fle_0, P_fle_0, i1, i2, j1, j2, hu, hu2, Bool.true_and, eviS, List.filter_cons]
    cases u.1 != c
    · exact ⟨rfl, rfl⟩
    · simp only [cond_true, if_true, List.append_assoc, List.singleton_append, Bool.and_true, decide_eq_true_eq, true_and]
      simp only [List.length_singleton]; omega
theorem fle_P : ∀ a : List SEn × Int, okE a.1 = true → P_fle a = true := fun a h => by
  simp only [P_fle, (fle_0 a.1 a.2 _ a.1 [] 0 (fun e he => okE_mem h he) (by simpa using okE_len h)).2, Bool.and_true]; exact decide_eq_true (okE_len h)
theorem fle_F : ∀ a : List SEn × Int, okE a.1 = true → F_fle a = eviS a := fun a h => by
  simp only [F_fle, (fle_0 a.1 a.2 _ a.1 [] 0 (fun e he => okE_mem h he) (by simpa using okE_len h)).1, List.nil_append]
theorem fle_run : ∀ a, (fun a => okE a.1 : (List (SEn)) × Int → Bool) a = true → ∃ f, M_fle f a = some ((eviS : (List (SEn)) × Int → (List (SEn))) a) := fun a h => by have h1 := fle_auto a (fle_P a h); rw [fle_F a h] at h1; exact h1
noncomputable def E_fle : Ent := ⟨81, [.rd tSEn, .fn 83 [[.int .i64]]], [.o 32 13 tSEn], fun a => (fun a => okE a.1 : (List (SEn)) × Int → Bool) a, fun a => (eviS : (List (SEn)) × Int → (List (SEn))) a⟩
theorem E_fle_ok : E_fle.Ok Try.prog := fun a hp vs hv => (fle_run a hp).elim fun f h => fnX_ok (C := C_fle) (Lt := Lt_fle) (fn := Try.f81) (rs := [.tmp 4]) [.rd tSEn, .fn 83 [[.int .i64]]] [.o 32 13 tSEn] mixed es_fle Try.func81 rfl rfl rfl (by kernel_rfl) (by kernel_rfl) f h vs hv
noncomputable def C_fpru : Cfg := ⟨Try.prog, [E_flp], pmT [], 8, []⟩
theorem es_fpru : EsOk Try.prog [E_flp] [] := es_cons E_flp_ok (es_nil)
def Lt_fpru : Nat → LD := ldT []
noncomputable def M_fpru (f : Nat) (a : (List (SEn)) × SId) : Option ((List (SEn))) := (runX (C_fpru) Lt_fpru (Kret Try.prog [.tmp 4] [.o 32 13 tSEn]) f [.code (bodyOf Try.f44)] (initX [.rd tSEn, .g tSId] a) : Option (ResT [.o 32 13 tSEn]))
theorem M_fpru_eq (f : Nat) (l : List (SEn)) (id : SId) : M_fpru (f + 1) (l, id) =
    bif okE l then some (pruS (l, id)) else none := by kernel_rfl
noncomputable def F_fpru : ((List (SEn)) × SId) → (List (SEn))
  | (l, id) => pruS (l, id)
noncomputable def P_fpru : ((List (SEn)) × SId) → Bool
  | (l, id) => okE l
theorem fpru_auto : ∀ a : (List (SEn)) × SId, Rns (fun f => M_fpru f a) (P_fpru a) (F_fpru a)
  | (l, id) => ev_step (fun f => M_fpru_eq f _ _) (ev_chk1 ev_some)
theorem fpru_P : ∀ a : List SEn × SId, okE a.1 = true → P_fpru a = true := fun a h => h
theorem fpru_F : ∀ a : List SEn × SId, okE a.1 = true → F_fpru a = pruS a := fun a h => rfl
theorem fpru_run : ∀ a, (fun a => okE a.1 : (List (SEn)) × SId → Bool) a = true → ∃ f, M_fpru f a = some ((pruS : (List (SEn)) × SId → (List (SEn))) a) := fun a h => by have h1 := fpru_auto a (fpru_P a h); rw [fpru_F a h] at h1; exact h1
noncomputable def E_fpru : Ent := ⟨44, [.rd tSEn, .g tSId], [.o 32 13 tSEn], fun a => (fun a => okE a.1 : (List (SEn)) × SId → Bool) a, fun a => (pruS : (List (SEn)) × SId → (List (SEn))) a⟩
theorem E_fpru_ok : E_fpru.Ok Try.prog := fun a hp vs hv => (fpru_run a hp).elim fun f h => fnX_ok (C := C_fpru) (Lt := Lt_fpru) (fn := Try.f44) (rs := [.tmp 4]) [.rd tSEn, .g tSId] [.o 32 13 tSEn] mixed es_fpru Try.func44 rfl rfl rfl (by kernel_rfl) (by kernel_rfl) f h vs hv
noncomputable def C_fevi : Cfg := ⟨Try.prog, [E_fle], pmT [], 8, []⟩
theorem es_fevi : EsOk Try.prog [E_fle] [] := es_cons E_fle_ok (es_nil)
def Lt_fevi : Nat → LD := ldT []
noncomputable def M_fevi (f : Nat) (a : (List (SEn)) × Int) : Option ((List (SEn))) := (runX (C_fevi) Lt_fevi (Kret Try.prog [.tmp 4] [.o 32 13 tSEn]) f [.code (bodyOf Try.f46)] (initX [.rd tSEn, .c (.int .i64)] a) : Option (ResT [.o 32 13 tSEn]))
theorem M_fevi_eq (f : Nat) (l : List (SEn)) (core : Int) : M_fevi (f + 1) (l, core) =
    bif okE l then some (eviS (l, core)) else none := by kernel_rfl
noncomputable def F_fevi : ((List (SEn)) × Int) → (List (SEn))
  | (l, core) => eviS (l, core)
noncomputable def P_fevi : ((List (SEn)) × Int) → Bool
  | (l, core) => okE l
theorem fevi_auto : ∀ a : (List (SEn)) × Int, Rns (fun f => M_fevi f a) (P_fevi a) (F_fevi a)
  | (l, core) => ev_step (fun f => M_fevi_eq f _ _) (ev_chk1 ev_some)
theorem fevi_P : ∀ a : List SEn × Int, okE a.1 = true → P_fevi a = true := fun a h => h
theorem fevi_F : ∀ a : List SEn × Int, okE a.1 = true → F_fevi a = eviS a := fun a h => rfl
theorem fevi_run : ∀ a, (fun a => okE a.1 : (List (SEn)) × Int → Bool) a = true → ∃ f, M_fevi f a = some ((eviS : (List (SEn)) × Int → (List (SEn))) a) := fun a h => by have h1 := fevi_auto a (fevi_P a h); rw [fevi_F a h] at h1; exact h1
noncomputable def E_fevi : Ent := ⟨46, [.rd tSEn, .c (.int .i64)], [.o 32 13 tSEn], fun a => (fun a => okE a.1 : (List (SEn)) × Int → Bool) a, fun a => (eviS : (List (SEn)) × Int → (List (SEn))) a⟩
theorem E_fevi_ok : E_fevi.Ok Try.prog := fun a hp vs hv => (fevi_run a hp).elim fun f h => fnX_ok (C := C_fevi) (Lt := Lt_fevi) (fn := Try.f46) (rs := [.tmp 4]) [.rd tSEn, .c (.int .i64)] [.o 32 13 tSEn] mixed es_fevi Try.func46 rfl rfl rfl (by kernel_rfl) (by kernel_rfl) f h vs hv
end Go.AL
