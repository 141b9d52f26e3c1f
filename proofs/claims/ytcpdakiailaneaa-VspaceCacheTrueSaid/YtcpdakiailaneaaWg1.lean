/-
  Ids, capabilities, nodes: contracts of the functions of layers 11 and 12 that a seat has. By an AI agent.
-/
import Derived.Test.YtcpdakiailaneaaWg0
namespace Go.AL
open Go.Proofs
set_option linter.unusedVariables false
set_option linter.unusedSimpArgs false
abbrev tSId : List Ty := [.int .i64, .int .i64, .int .i64]
abbrev SId := Int × Int × Int
abbrev tSCp : List Ty := [.int .i64, .int .i64, .int .i64, .int .i64, .int .i64, .int .i64, .bool]
abbrev SCp := Int × Int × Int × Int × Int × Int × Bool
abbrev tSNd : List Ty := [.int .i64, .int .i64, .int .i64, .sl [.int .i64, .int .i64, .int .i64], .int .i64, .int .i64, .int .i64, .int .i64, .int .i64, .int .i64, .bool]
abbrev SNd := Int × Int × Int × (List (Int × Int × Int)) × Int × Int × Int × Int × Int × Int × Bool
theorem id_eq (a b : SId) : (a.1 == b.1 && (a.2.1 == b.2.1 && (a.2.2 == b.2.2 && true))) = decide (a = b) := by
  obtain ⟨a1, a2, a3⟩ := a
  obtain ⟨b1, b2, b3⟩ := b
  by_cases h : ((a1, a2, a3) : SId) = (b1, b2, b3)
  · cases h; simp
  · rw [decide_eq_false h]
    cases e : (a1 == b1 && (a2 == b2 && (a3 == b3 && true))) with
    | false => rfl
    | true =>
      simp only [Bool.and_true, Bool.and_eq_true, beq_iff_eq] at e
      obtain ⟨rfl, rfl, rfl⟩ := e
      exact absurd rfl h
/-! ### Ids -/
def vidB (id : SId) : Bool := decide (0 ≤ id.1) && (decide (id.1 < 32) && (decide (1 ≤ id.2.1) && (decide (id.2.1 ≤ 1073741824) && (decide (0 ≤ id.2.2) && decide (id.2.2 < 8)))))
theorem bif_and {a b : Bool} : (bif a then b else false) = (a && b) := by cases a <;> rfl
instance decCp : DecidableEq SCp := @instDecidableEqProd Int _ _ (@instDecidableEqProd Int _ _ (@instDecidableEqProd Int _ _ inferInstance))
def memD {α : Type} [DecidableEq α] (v : α) (l : List α) : Bool := decide (v ∈ l)
theorem memD_iff {α : Type} [DecidableEq α] {v : α} {l : List α} : memD v l = true ↔ v ∈ l := by simp [memD]
theorem memD_cons {α : Type} [DecidableEq α] (v u : α) (l : List α) : memD v (u :: l) = (decide (u = v) || memD v l) := by
  by_cases h : u = v
  · subst h; simp [memD]
  · have h2 : ¬ v = u := fun e => h e.symm
    simp [memD, h, h2]
instance decNd : DecidableEq SNd := @instDecidableEqProd Int _ _ (@instDecidableEqProd Int _ _ (@instDecidableEqProd Int _ _ (@instDecidableEqProd (List SId) SCp _ decCp)))
noncomputable def C_vid : Cfg := ⟨Try.prog, [], pmT [], 31, [], []⟩
theorem es_vid : EsOk Try.prog [] [] := es_nil
def Lt_vid : Nat → LD := ldT []
noncomputable def M_vid (f : Nat) (a : SId) : Option (Bool) := (runX (C_vid) Lt_vid (Kret Try.prog [.tmp 2] [.v (.bool)]) f [.code (bodyOf Try.f92)] (initX [.g tSId] a) : Option (ResT [.v (.bool)]))
theorem M_vid_eq (f : Nat) (id : SId) : M_vid (f + 1) id =
    bif decide (id.1 ≥ 0) then bif decide (id.1 < 32) then bif decide (id.2.1 ≥ 1) then bif decide (id.2.1 ≤ 1073741824) then bif decide (id.2.2 ≥ 0) then some (decide (id.2.2 < 8)) else some false else some false else some false else some false else some false := by kernel_rfl
noncomputable def F_vid : SId → Bool
  | id => bif decide (id.1 ≥ 0) then bif decide (id.1 < 32) then bif decide (id.2.1 ≥ 1) then bif decide (id.2.1 ≤ 1073741824) then bif decide (id.2.2 ≥ 0) then decide (id.2.2 < 8) else false else false else false else false else false
noncomputable def P_vid : SId → Bool
  | id => true
theorem vid_auto : ∀ a : SId, Rns (fun f => M_vid f a) (P_vid a) (F_vid a)
  | id => ev_step (fun f => M_vid_eq f _) (ev_bift (ev_bift (ev_bift (ev_bift (ev_bift ev_some ev_some) ev_some) ev_some) ev_some) ev_some)
theorem vid_P : ∀ a, (fun _ => true) a = true → P_vid a = true := fun _ _ => rfl
theorem vid_F : ∀ a, (fun _ => true) a = true → F_vid a = vidB a := fun a _ => by simp only [F_vid, vidB, bif_and, ge_iff_le]
theorem vid_run : ∀ a, (fun _ => true : SId → Bool) a = true → ∃ f, M_vid f a = some ((vidB : SId → Bool) a) := fun a h => by have h1 := vid_auto a (vid_P a h); rw [vid_F a h] at h1; exact h1
noncomputable def E_vid : Ent := ⟨92, [.g tSId], [.v (.bool)], fun a => (fun _ => true : SId → Bool) a, fun a => (vidB : SId → Bool) a⟩
theorem E_vid_ok : E_vid.Ok Try.prog := fun a hp vs hv => (vid_run a hp).elim fun f h => fnX_ok (C := C_vid) (Lt := Lt_vid) (fn := Try.f92) (rs := [.tmp 2]) [.g tSId] [.v (.bool)] mixed es_vid Try.func92 rfl rfl rfl (by kernel_rfl) (by kernel_rfl) f h vs hv
/-! ### Lists of ids -/
theorem beq_dec (u v : Int) : (v == u) = decide (u = v) := by
  by_cases h : u = v
  · subst h; simp
  · rw [decide_eq_false h]; exact beq_eq_false_iff_ne.2 (fun e => h e.symm)
def idxI {α : Type} [DecidableEq α] : List α → α → Int → Int
  | [], _, _ => -1
  | u :: r, v, k => bif decide (u = v) then k else idxI r v (k + 1)
theorem idxI_ge {α : Type} [DecidableEq α] (v : α) : ∀ (l : List α) (k : Int), 0 ≤ k → decide (idxI l v k ≥ 0) = memD v l
  | [], k, h => by simp [idxI, memD]
  | u :: r, k, h => by
    rw [memD_cons]
    by_cases e : u = v
    · subst e; simp [idxI, h]
    · have h1 : idxI (u :: r) v k = idxI r v (k + 1) := by simp [idxI, e]
      rw [h1, idxI_ge v r (k + 1) (by omega), decide_eq_false e]; rfl
noncomputable def C_sidx : Cfg := ⟨Try.prog, [], pmT [(4, ([(0, []), (1, []), (2, []), (3, []), (4, []), (5, [])], [(11, 16)]))], 19, [], []⟩
theorem es_sidx : EsOk Try.prog [] [] := es_nil
def Lt_sidx : Nat → LD := ldT [(0, ⟨[.rd 0 tSId, .box 3 3 39 3 tSId, .c 7 (.int .i64), .c 8 (.int .i64)], [], 0⟩)]
noncomputable def M_sidx (f : Nat) (a : (List (SId)) × SId) : Option (Int) := (runX (C_sidx) Lt_sidx (Kret Try.prog [.tmp 4] [.v (.int .i64)]) f [.code (bodyOf Try.f107)] (initX [.rd tSId, .g tSId] a) : Option (ResT [.v (.int .i64)]))
noncomputable def L_sidx_0 (f : Nat) (x : (List (SId)) × SId × Int × Int) : Option (Int) := (runX (C_sidx) Lt_sidx (Kret Try.prog [.tmp 4] [.v (.int .i64)]) f (headOf Try.f107 0) ((Lt_sidx 0).mk' x) : Option (ResT [.v (.int .i64)]))
theorem M_sidx_eq (f : Nat) (s : List (SId)) (v : SId) : M_sidx (f + 1) (s, v) =
    L_sidx_0 f (s, v, (↑s.length : Int), 0) := by kernel_rfl
theorem L_sidx_0_eq (f : Nat) (s : List (SId)) (v : SId) (x7 : Int) (x8 : Int) : L_sidx_0 (f + 1) (s, v, x7, x8) =
    bif decide (x8 < x7) then bif decide (0 ≤ x8) && decide (x8 < (↑s.length : Int)) then bif v.1 == (s.getD x8.toNat (0, 0, 0)).1 && (v.2.1 == (s.getD x8.toNat (0, 0, 0)).2.1 && (v.2.2 == (s.getD x8.toNat (0, 0, 0)).2.2 && true)) then some x8 else L_sidx_0 f (s, v, x7, IntKind.i64.wrap (x8 + 1)) else none else some (-1) := by kernel_rfl
noncomputable def F_sidx_0 : List (SId) → ((List (SId)) × SId × Int × Nat) → Int
  | [], (s, v, x7, x8) => -1
  | uu :: rest, (s, v, x7, x8) => bif v.1 == uu.1 && (v.2.1 == uu.2.1 && (v.2.2 == uu.2.2 && true)) then (↑x8 : Int) else F_sidx_0 rest (s, v, x7, x8 + 1)
noncomputable def P_sidx_0 : List (SId) → ((List (SId)) × SId × Int × Nat) → Bool
  | [], (s, v, x7, x8) => true
  | uu :: rest, (s, v, x7, x8) => bif v.1 == uu.1 && (v.2.1 == uu.2.1 && (v.2.2 == uu.2.2 && true)) then true else P_sidx_0 rest (s, v, x7, x8 + 1)
theorem A_sidx_0 : ∀ (rest : List (SId)) (s : List (SId)) (v : SId) (x7 : Int) (x8 : Nat) (hd : s.drop x8 = rest) (hn : x7 = ((s.length : Nat) : Int)) (hl : s.length ≤ 1099511627776), Rns (fun f => L_sidx_0 f (s, v, x7, ((x8 : Nat) : Int))) (P_sidx_0 rest (s, v, x7, x8)) (F_sidx_0 rest (s, v, x7, x8))
  | [], s, v, x7, x8, hd, hn, hl => ev_step (T := fun f => some (-1)) (fun f => (L_sidx_0_eq f _ _ _ _).trans (by simp only [ge_decn hn (drop_ge hd), ge0, Bool.and_self, Bool.true_and, cond_true, cond_false, List.length_set] <;> rfl)) ev_some
  | uu :: rest, s, v, x7, x8, hd, hn, hl => ev_step (T := fun f => bif v.1 == uu.1 && (v.2.1 == uu.2.1 && (v.2.2 == uu.2.2 && true)) then some (↑x8 : Int) else L_sidx_0 f (s, v, x7, (↑(x8 + 1) : Int))) (fun f => (L_sidx_0_eq f _ _ _ _).trans (by simp only [lt_decn hn (drop_lt hd), lt_dec (drop_lt hd), drop_get hd, wrap_succ (drop_lt hd) hl, getD_set (drop_lt hd), ge0, Bool.and_self, Bool.true_and, cond_true, cond_false, List.length_set] <;> rfl)) (ev_bif ev_some (A_sidx_0 rest _ _ _ _ (by first | exact drop_succ hd | exact drop_set hd | exact drop_setS (drop_set hd)) (by first | exact hn | simpa using hn) (by first | exact hl | simpa using hl)))
noncomputable def F_sidx : ((List (SId)) × SId) → Int
  | (s, v) => F_sidx_0 s (s, v, (↑s.length : Int), 0)
noncomputable def P_sidx : ((List (SId)) × SId) → Bool
  | (s, v) => decide (s.length ≤ 1099511627776) && P_sidx_0 s (s, v, (↑s.length : Int), 0)
theorem sidx_auto : ∀ a : (List (SId)) × SId, Rns (fun f => M_sidx f a) (P_sidx a) (F_sidx a)
  | (s, v) => ev_step (fun f => M_sidx_eq f _ _) (ev_and fun hh => A_sidx_0 _ _ _ _ _ rfl (by first | rfl | simp) (of_decide_eq_true hh))
theorem sidx_0P (v : SId) : ∀ (rest l : List SId) (n : Int) (k : Nat), P_sidx_0 rest (l, v, n, k) = true
  | [], l, n, k => rfl
  | u :: r, l, n, k => by simp only [P_sidx_0]; rw [sidx_0P v r]; simp
theorem sidx_0F (v : SId) : ∀ (rest l : List SId) (n : Int) (k : Nat), F_sidx_0 rest (l, v, n, k) = idxI rest v k
  | [], l, n, k => rfl
  | u :: r, l, n, k => by
    simp only [F_sidx_0, idxI, id_eq]; rw [sidx_0F v r]
    rw [show decide (v = u) = decide (u = v) from decide_eq_decide.2 eq_comm]; rfl
theorem sidx_P : ∀ a : List SId × SId, len40n a.1 = true → P_sidx a = true := fun a h => by simp only [P_sidx, sidx_0P, Bool.and_true]; exact h
theorem sidx_F : ∀ a : List SId × SId, len40n a.1 = true → F_sidx a = idxI a.1 a.2 0 := fun a h => by simp only [F_sidx, sidx_0F]; rfl
theorem sidx_run : ∀ a, (fun a => len40n a.1 : (List (SId)) × SId → Bool) a = true → ∃ f, M_sidx f a = some ((fun a => idxI a.1 a.2 0 : (List (SId)) × SId → Int) a) := fun a h => by have h1 := sidx_auto a (sidx_P a h); rw [sidx_F a h] at h1; exact h1
noncomputable def E_sidx : Ent := ⟨107, [.rd tSId, .g tSId], [.v (.int .i64)], fun a => (fun a => len40n a.1 : (List (SId)) × SId → Bool) a, fun a => (fun a => idxI a.1 a.2 0 : (List (SId)) × SId → Int) a⟩
theorem E_sidx_ok : E_sidx.Ok Try.prog := fun a hp vs hv => (sidx_run a hp).elim fun f h => fnX_ok (C := C_sidx) (Lt := Lt_sidx) (fn := Try.f107) (rs := [.tmp 4]) [.rd tSId, .g tSId] [.v (.int .i64)] mixed es_sidx Try.func107 rfl rfl rfl (by kernel_rfl) (by kernel_rfl) f h vs hv
noncomputable def C_iidx : Cfg := ⟨Try.prog, [], pmT [], 19, [], []⟩
theorem es_iidx : EsOk Try.prog [] [] := es_nil
def Lt_iidx : Nat → LD := ldT [(0, ⟨[.rd 0 [.int .i64], .c 1 (.int .i64), .c 7 (.int .i64), .c 8 (.int .i64)], [], 0⟩)]
noncomputable def M_iidx (f : Nat) (a : (List (Int)) × Int) : Option (Int) := (runX (C_iidx) Lt_iidx (Kret Try.prog [.tmp 4] [.v (.int .i64)]) f [.code (bodyOf Try.f106)] (initX [.rd [.int .i64], .c (.int .i64)] a) : Option (ResT [.v (.int .i64)]))
noncomputable def L_iidx_0 (f : Nat) (x : (List (Int)) × Int × Int × Int) : Option (Int) := (runX (C_iidx) Lt_iidx (Kret Try.prog [.tmp 4] [.v (.int .i64)]) f (headOf Try.f106 0) ((Lt_iidx 0).mk' x) : Option (ResT [.v (.int .i64)]))
theorem M_iidx_eq (f : Nat) (s : List (Int)) (v : Int) : M_iidx (f + 1) (s, v) =
    L_iidx_0 f (s, v, (↑s.length : Int), 0) := by kernel_rfl
theorem L_iidx_0_eq (f : Nat) (s : List (Int)) (v : Int) (x7 : Int) (x8 : Int) : L_iidx_0 (f + 1) (s, v, x7, x8) =
    bif decide (x8 < x7) then bif decide (0 ≤ x8) && decide (x8 < (↑s.length : Int)) then bif v == s.getD x8.toNat 0 then some x8 else L_iidx_0 f (s, v, x7, IntKind.i64.wrap (x8 + 1)) else none else some (-1) := by kernel_rfl
noncomputable def F_iidx_0 : List (Int) → ((List (Int)) × Int × Int × Nat) → Int
  | [], (s, v, x7, x8) => -1
  | uu :: rest, (s, v, x7, x8) => bif v == uu then (↑x8 : Int) else F_iidx_0 rest (s, v, x7, x8 + 1)
noncomputable def P_iidx_0 : List (Int) → ((List (Int)) × Int × Int × Nat) → Bool
  | [], (s, v, x7, x8) => true
  | uu :: rest, (s, v, x7, x8) => bif v == uu then true else P_iidx_0 rest (s, v, x7, x8 + 1)
theorem A_iidx_0 : ∀ (rest : List (Int)) (s : List (Int)) (v : Int) (x7 : Int) (x8 : Nat) (hd : s.drop x8 = rest) (hn : x7 = ((s.length : Nat) : Int)) (hl : s.length ≤ 1099511627776), Rns (fun f => L_iidx_0 f (s, v, x7, ((x8 : Nat) : Int))) (P_iidx_0 rest (s, v, x7, x8)) (F_iidx_0 rest (s, v, x7, x8))
  | [], s, v, x7, x8, hd, hn, hl => ev_step (T := fun f => some (-1)) (fun f => (L_iidx_0_eq f _ _ _ _).trans (by simp only [ge_decn hn (drop_ge hd), ge0, Bool.and_self, Bool.true_and, cond_true, cond_false, List.length_set] <;> rfl)) ev_some
  | uu :: rest, s, v, x7, x8, hd, hn, hl => ev_step (T := fun f => bif v == uu then some (↑x8 : Int) else L_iidx_0 f (s, v, x7, (↑(x8 + 1) : Int))) (fun f => (L_iidx_0_eq f _ _ _ _).trans (by simp only [lt_decn hn (drop_lt hd), lt_dec (drop_lt hd), drop_get hd, wrap_succ (drop_lt hd) hl, getD_set (drop_lt hd), ge0, Bool.and_self, Bool.true_and, cond_true, cond_false, List.length_set] <;> rfl)) (ev_bif ev_some (A_iidx_0 rest _ _ _ _ (by first | exact drop_succ hd | exact drop_set hd | exact drop_setS (drop_set hd)) (by first | exact hn | simpa using hn) (by first | exact hl | simpa using hl)))
noncomputable def F_iidx : ((List (Int)) × Int) → Int
  | (s, v) => F_iidx_0 s (s, v, (↑s.length : Int), 0)
noncomputable def P_iidx : ((List (Int)) × Int) → Bool
  | (s, v) => decide (s.length ≤ 1099511627776) && P_iidx_0 s (s, v, (↑s.length : Int), 0)
theorem iidx_auto : ∀ a : (List (Int)) × Int, Rns (fun f => M_iidx f a) (P_iidx a) (F_iidx a)
  | (s, v) => ev_step (fun f => M_iidx_eq f _ _) (ev_and fun hh => A_iidx_0 _ _ _ _ _ rfl (by first | rfl | simp) (of_decide_eq_true hh))
theorem iidx_0P (v : Int) : ∀ (rest l : List Int) (n : Int) (k : Nat), P_iidx_0 rest (l, v, n, k) = true
  | [], l, n, k => rfl
  | u :: r, l, n, k => by simp only [P_iidx_0]; rw [iidx_0P v r]; cases (v == u) <;> rfl
theorem iidx_0F (v : Int) : ∀ (rest l : List Int) (n : Int) (k : Nat), F_iidx_0 rest (l, v, n, k) = idxI rest v k
  | [], l, n, k => rfl
  | u :: r, l, n, k => by
    simp only [F_iidx_0, idxI]; rw [iidx_0F v r]
    rw [beq_dec]; rfl
theorem iidx_P : ∀ a : List Int × Int, len40n a.1 = true → P_iidx a = true := fun a h => by simp only [P_iidx, iidx_0P, Bool.and_true]; exact h
theorem iidx_F : ∀ a : List Int × Int, len40n a.1 = true → F_iidx a = idxI a.1 a.2 0 := fun a h => by simp only [F_iidx, iidx_0F]; rfl
theorem iidx_run : ∀ a, (fun a => len40n a.1 : (List (Int)) × Int → Bool) a = true → ∃ f, M_iidx f a = some ((fun a => idxI a.1 a.2 0 : (List (Int)) × Int → Int) a) := fun a h => by have h1 := iidx_auto a (iidx_P a h); rw [iidx_F a h] at h1; exact h1
noncomputable def E_iidx : Ent := ⟨106, [.rd [.int .i64], .c (.int .i64)], [.v (.int .i64)], fun a => (fun a => len40n a.1 : (List (Int)) × Int → Bool) a, fun a => (fun a => idxI a.1 a.2 0 : (List (Int)) × Int → Int) a⟩
theorem E_iidx_ok : E_iidx.Ok Try.prog := fun a hp vs hv => (iidx_run a hp).elim fun f h => fnX_ok (C := C_iidx) (Lt := Lt_iidx) (fn := Try.f106) (rs := [.tmp 4]) [.rd [.int .i64], .c (.int .i64)] [.v (.int .i64)] mixed es_iidx Try.func106 rfl rfl rfl (by kernel_rfl) (by kernel_rfl) f h vs hv
noncomputable def C_scon : Cfg := ⟨Try.prog, [E_sidx], pmT [], 9, [], []⟩
theorem es_scon : EsOk Try.prog [E_sidx] [] := es_cons E_sidx_ok (es_nil)
def Lt_scon : Nat → LD := ldT []
noncomputable def M_scon (f : Nat) (a : (List (SId)) × SId) : Option (Bool) := (runX (C_scon) Lt_scon (Kret Try.prog [.tmp 4] [.v (.bool)]) f [.code (bodyOf Try.f68)] (initX [.rd tSId, .g tSId] a) : Option (ResT [.v (.bool)]))
theorem M_scon_eq (f : Nat) (s : List (SId)) (v : SId) : M_scon (f + 1) (s, v) =
    bif len40n s then some (decide (idxI s v 0 ≥ 0)) else none := by kernel_rfl
noncomputable def F_scon : ((List (SId)) × SId) → Bool
  | (s, v) => decide (idxI s v 0 ≥ 0)
noncomputable def P_scon : ((List (SId)) × SId) → Bool
  | (s, v) => len40n s
theorem scon_auto : ∀ a : (List (SId)) × SId, Rns (fun f => M_scon f a) (P_scon a) (F_scon a)
  | (s, v) => ev_step (fun f => M_scon_eq f _ _) (ev_chk1 ev_some)
theorem scon_P : ∀ a : List SId × SId, len40n a.1 = true → P_scon a = true := fun a h => h
theorem scon_F : ∀ a : List SId × SId, len40n a.1 = true → F_scon a = memD a.2 a.1 := fun a h => idxI_ge a.2 a.1 0 (by omega)
theorem scon_run : ∀ a, (fun a => len40n a.1 : (List (SId)) × SId → Bool) a = true → ∃ f, M_scon f a = some ((fun a => memD a.2 a.1 : (List (SId)) × SId → Bool) a) := fun a h => by have h1 := scon_auto a (scon_P a h); rw [scon_F a h] at h1; exact h1
noncomputable def E_scon : Ent := ⟨68, [.rd tSId, .g tSId], [.v (.bool)], fun a => (fun a => len40n a.1 : (List (SId)) × SId → Bool) a, fun a => (fun a => memD a.2 a.1 : (List (SId)) × SId → Bool) a⟩
theorem E_scon_ok : E_scon.Ok Try.prog := fun a hp vs hv => (scon_run a hp).elim fun f h => fnX_ok (C := C_scon) (Lt := Lt_scon) (fn := Try.f68) (rs := [.tmp 4]) [.rd tSId, .g tSId] [.v (.bool)] mixed es_scon Try.func68 rfl rfl rfl (by kernel_rfl) (by kernel_rfl) f h vs hv
noncomputable def C_icon : Cfg := ⟨Try.prog, [E_iidx], pmT [], 9, [], []⟩
theorem es_icon : EsOk Try.prog [E_iidx] [] := es_cons E_iidx_ok (es_nil)
def Lt_icon : Nat → LD := ldT []
noncomputable def M_icon (f : Nat) (a : (List (Int)) × Int) : Option (Bool) := (runX (C_icon) Lt_icon (Kret Try.prog [.tmp 4] [.v (.bool)]) f [.code (bodyOf Try.f67)] (initX [.rd [.int .i64], .c (.int .i64)] a) : Option (ResT [.v (.bool)]))
theorem M_icon_eq (f : Nat) (s : List (Int)) (v : Int) : M_icon (f + 1) (s, v) =
    bif len40n s then some (decide (idxI s v 0 ≥ 0)) else none := by kernel_rfl
noncomputable def F_icon : ((List (Int)) × Int) → Bool
  | (s, v) => decide (idxI s v 0 ≥ 0)
noncomputable def P_icon : ((List (Int)) × Int) → Bool
  | (s, v) => len40n s
theorem icon_auto : ∀ a : (List (Int)) × Int, Rns (fun f => M_icon f a) (P_icon a) (F_icon a)
  | (s, v) => ev_step (fun f => M_icon_eq f _ _) (ev_chk1 ev_some)
theorem icon_P : ∀ a : List Int × Int, len40n a.1 = true → P_icon a = true := fun a h => h
theorem icon_F : ∀ a : List Int × Int, len40n a.1 = true → F_icon a = memD a.2 a.1 := fun a h => idxI_ge a.2 a.1 0 (by omega)
theorem icon_run : ∀ a, (fun a => len40n a.1 : (List (Int)) × Int → Bool) a = true → ∃ f, M_icon f a = some ((fun a => memD a.2 a.1 : (List (Int)) × Int → Bool) a) := fun a h => by have h1 := icon_auto a (icon_P a h); rw [icon_F a h] at h1; exact h1
noncomputable def E_icon : Ent := ⟨67, [.rd [.int .i64], .c (.int .i64)], [.v (.bool)], fun a => (fun a => len40n a.1 : (List (Int)) × Int → Bool) a, fun a => (fun a => memD a.2 a.1 : (List (Int)) × Int → Bool) a⟩
theorem E_icon_ok : E_icon.Ok Try.prog := fun a hp vs hv => (icon_run a hp).elim fun f h => fnX_ok (C := C_icon) (Lt := Lt_icon) (fn := Try.f67) (rs := [.tmp 4]) [.rd [.int .i64], .c (.int .i64)] [.v (.bool)] mixed es_icon Try.func67 rfl rfl rfl (by kernel_rfl) (by kernel_rfl) f h vs hv
noncomputable def C_icl : Cfg := ⟨Try.prog, [], pmT [], 8, [], []⟩
theorem es_icl : EsOk Try.prog [] := es_nil
theorem X_icl (l : List (SId)) : (runX C_icl (fun _ => ⟨[], [], 0⟩) (Kret Try.prog [.tmp 2] [.o 39 3 tSId]) 1 [.code (bodyOf Try.f109)] (initX [.rd tSId] l) : Option (ResT [.o 39 3 tSId])) = bif Decidable.decide (0 < l.length) && Bool.true then bif Decidable.decide ((([] : List Nat).length + l.length) * (bytesOf Try.prog 39) ≤ 140737488355328) then some l else none else none := by kernel_rfl
noncomputable def E_icl : Ent := ⟨109, [.rd tSId], [.o 39 3 tSId], fun a => len40n (a : List (SId)), fun a => (a : List (SId))⟩
theorem E_icl_ok : E_icl.Ok Try.prog := fun a hp vs hv => clone_ok (τ := tSId) (t := 39) (es := 3)
    (fun a h0 h1 vs hv => fnX_ok (C := C_icl) (Lt := fun _ => ⟨[], [], 0⟩) (fn := Try.f109) (rs := [.tmp 2]) [.rd tSId] [.o 39 3 tSId] mixed es_icl Try.func109 rfl rfl rfl (by kernel_rfl) (by kernel_rfl) 1 ((X_icl a).trans (clone_len h0 h1 (by decide +kernel))) vs hv)
    (fnX_ok (C := C_icl) (Lt := fun _ => ⟨[], [], 0⟩) (fn := Try.f109) (rs := [.tmp 2]) (a := ()) [.raw (.slice none 0 0)] [.o 39 3 tSId] mixed es_icl Try.func109 rfl rfl rfl (by kernel_rfl) (by kernel_rfl) 1 (by kernel_rfl) _ (by simp only [ArgsV, ArgsV1, ArgV]; exact ⟨_, rfl, rfl⟩))
    (fun b c => fnX_ok (C := C_icl) (Lt := fun _ => ⟨[], [], 0⟩) (fn := Try.f109) (rs := [.tmp 2]) (a := ()) [.raw (.slice (some b) 0 c)] [.o 39 3 tSId] mixed es_icl Try.func109 rfl rfl rfl (by kernel_rfl) (by kernel_rfl) 1 (by kernel_rfl) _ (by simp only [ArgsV, ArgsV1, ArgV]; exact ⟨_, rfl, rfl⟩))
    a (of_decide_eq_true hp) vs hv
noncomputable def C_hasId : Cfg := ⟨Try.prog, [], pmT [(4, ([(0, []), (1, []), (2, []), (3, []), (4, []), (5, [])], [(12, 17)]))], 18, [], []⟩
theorem es_hasId : EsOk Try.prog [] [] := es_nil
def Lt_hasId : Nat → LD := ldT [(0, ⟨[.rd 0 tSId, .box 3 3 39 3 tSId, .c 5 (.int .i64)], [], 0⟩)]
noncomputable def M_hasId (f : Nat) (a : (List (SId)) × SId) : Option (Bool) := (runX (C_hasId) Lt_hasId (Kret Try.prog [.tmp 4] [.v (.bool)]) f [.code (bodyOf Try.f33)] (initX [.rd tSId, .g tSId] a) : Option (ResT [.v (.bool)]))
noncomputable def L_hasId_0 (f : Nat) (x : (List (SId)) × SId × Int) : Option (Bool) := (runX (C_hasId) Lt_hasId (Kret Try.prog [.tmp 4] [.v (.bool)]) f (headOf Try.f33 0) ((Lt_hasId 0).mk' x) : Option (ResT [.v (.bool)]))
theorem M_hasId_eq (f : Nat) (l : List (SId)) (id : SId) : M_hasId (f + 1) (l, id) =
    L_hasId_0 f (l, id, 0) := by kernel_rfl
theorem L_hasId_0_eq (f : Nat) (l : List (SId)) (id : SId) (i : Int) : L_hasId_0 (f + 1) (l, id, i) =
    bif decide (i < (↑l.length : Int)) then bif decide (0 ≤ i) && decide (i < (↑l.length : Int)) then bif (l.getD i.toNat (0, 0, 0)).1 == id.1 && ((l.getD i.toNat (0, 0, 0)).2.1 == id.2.1 && ((l.getD i.toNat (0, 0, 0)).2.2 == id.2.2 && true)) then some true else L_hasId_0 f (l, id, IntKind.i64.wrap (i + 1)) else none else some false := by kernel_rfl
noncomputable def F_hasId_0 : List (SId) → ((List (SId)) × SId × Nat) → Bool
  | [], (l, id, i) => false
  | uu :: rest, (l, id, i) => bif uu.1 == id.1 && (uu.2.1 == id.2.1 && (uu.2.2 == id.2.2 && true)) then true else F_hasId_0 rest (l, id, i + 1)
noncomputable def P_hasId_0 : List (SId) → ((List (SId)) × SId × Nat) → Bool
  | [], (l, id, i) => true
  | uu :: rest, (l, id, i) => bif uu.1 == id.1 && (uu.2.1 == id.2.1 && (uu.2.2 == id.2.2 && true)) then true else P_hasId_0 rest (l, id, i + 1)
theorem A_hasId_0 : ∀ (rest : List (SId)) (l : List (SId)) (id : SId) (i : Nat) (hd : l.drop i = rest) (hl : l.length ≤ 1099511627776), Rns (fun f => L_hasId_0 f (l, id, ((i : Nat) : Int))) (P_hasId_0 rest (l, id, i)) (F_hasId_0 rest (l, id, i))
  | [], l, id, i, hd, hl => ev_step (T := fun f => some false) (fun f => (L_hasId_0_eq f _ _ _).trans (by simp only [ge_dec (drop_ge hd), ge0, Bool.and_self, Bool.true_and, cond_true, cond_false, List.length_set] <;> rfl)) ev_some
  | uu :: rest, l, id, i, hd, hl => ev_step (T := fun f => bif uu.1 == id.1 && (uu.2.1 == id.2.1 && (uu.2.2 == id.2.2 && true)) then some true else L_hasId_0 f (l, id, (↑(i + 1) : Int))) (fun f => (L_hasId_0_eq f _ _ _).trans (by simp only [lt_dec (drop_lt hd), drop_get hd, wrap_succ (drop_lt hd) hl, getD_set (drop_lt hd), ge0, Bool.and_self, Bool.true_and, cond_true, cond_false, List.length_set] <;> rfl)) (ev_bif ev_some (A_hasId_0 rest _ _ _ (by first | exact drop_succ hd | exact drop_set hd | exact drop_setS (drop_set hd)) (by first | exact hl | simpa using hl)))
noncomputable def F_hasId : ((List (SId)) × SId) → Bool
  | (l, id) => F_hasId_0 l (l, id, 0)
noncomputable def P_hasId : ((List (SId)) × SId) → Bool
  | (l, id) => decide (l.length ≤ 1099511627776) && P_hasId_0 l (l, id, 0)
theorem hasId_auto : ∀ a : (List (SId)) × SId, Rns (fun f => M_hasId f a) (P_hasId a) (F_hasId a)
  | (l, id) => ev_step (fun f => M_hasId_eq f _ _) (ev_and fun hh => A_hasId_0 _ _ _ _ rfl (of_decide_eq_true hh))
theorem hasId_0P (v : SId) : ∀ (rest l : List SId) (k : Nat), P_hasId_0 rest (l, v, k) = true
  | [], l, k => rfl
  | u :: r, l, k => by simp only [P_hasId_0]; rw [hasId_0P v r]; simp
theorem hasId_0F (v : SId) : ∀ (rest l : List SId) (k : Nat), F_hasId_0 rest (l, v, k) = memD v rest
  | [], l, k => rfl
  | u :: r, l, k => by
    simp only [F_hasId_0, id_eq]; rw [hasId_0F v r, memD_cons]
    cases decide (u = v) <;> rfl
theorem hasId_P : ∀ a : List SId × SId, len40n a.1 = true → P_hasId a = true := fun a h => by simp only [P_hasId, hasId_0P, Bool.and_true]; exact h
theorem hasId_F : ∀ a : List SId × SId, len40n a.1 = true → F_hasId a = memD a.2 a.1 := fun a h => by simp only [F_hasId, hasId_0F]
theorem hasId_run : ∀ a, (fun a => len40n a.1 : (List (SId)) × SId → Bool) a = true → ∃ f, M_hasId f a = some ((fun a => memD a.2 a.1 : (List (SId)) × SId → Bool) a) := fun a h => by have h1 := hasId_auto a (hasId_P a h); rw [hasId_F a h] at h1; exact h1
noncomputable def E_hasId : Ent := ⟨33, [.rd tSId, .g tSId], [.v (.bool)], fun a => (fun a => len40n a.1 : (List (SId)) × SId → Bool) a, fun a => (fun a => memD a.2 a.1 : (List (SId)) × SId → Bool) a⟩
theorem E_hasId_ok : E_hasId.Ok Try.prog := fun a hp vs hv => (hasId_run a hp).elim fun f h => fnX_ok (C := C_hasId) (Lt := Lt_hasId) (fn := Try.f33) (rs := [.tmp 4]) [.rd tSId, .g tSId] [.v (.bool)] mixed es_hasId Try.func33 rfl rfl rfl (by kernel_rfl) (by kernel_rfl) f h vs hv
theorem same_loop {α : Type} [DecidableEq α] (F P : List α → List α × List α × Nat → Bool)
    (h0 : ∀ a b k, F [] (a, b, k) = true ∧ P [] (a, b, k) = true)
    (h1 : ∀ u r a b k v t, b.drop k = v :: t → F (u :: r) (a, b, k) = (bif !decide (u = v) then false else F r (a, b, k + 1)) ∧ (P r (a, b, k + 1) = true → P (u :: r) (a, b, k) = true)) :
    ∀ (r a b t : List α) (k : Nat), b.drop k = t → r.length = t.length → F r (a, b, k) = decide (r = t) ∧ P r (a, b, k) = true
  | [], a, b, [], k, h, e => by simp [h0]
  | [], a, b, v :: t, k, h, e => by simp at e
  | u :: r, a, b, [], k, h, e => by simp at e
  | u :: r, a, b, v :: t, k, h, e => by
    obtain ⟨i1, i2⟩ := same_loop F P h0 h1 r a b t (k + 1) (drop_succ h) (by simpa using e)
    obtain ⟨j1, j2⟩ := h1 u r a b k v t h
    refine ⟨?_, j2 i2⟩
    rw [j1, i1]
    by_cases h : u = v
    · simp [h]
    · simp [h]
noncomputable def C_sids : Cfg := ⟨Try.prog, [], pmT [(6, ([(0, []), (1, []), (2, []), (3, []), (4, []), (5, []), (6, []), (7, []), (8, [])], [(17, 25)]))], 26, [], []⟩
theorem es_sids : EsOk Try.prog [] [] := es_nil
def Lt_sids : Nat → LD := ldT [(0, ⟨[.rd 0 tSId, .rd 1 tSId, .c 5 (.int .i64)], [], 0⟩)]
noncomputable def M_sids (f : Nat) (a : (List (SId)) × (List (SId))) : Option (Bool) := (runX (C_sids) Lt_sids (Kret Try.prog [.tmp 4] [.v (.bool)]) f [.code (bodyOf Try.f22)] (initX [.rd tSId, .rd tSId] a) : Option (ResT [.v (.bool)]))
noncomputable def L_sids_0 (f : Nat) (x : (List (SId)) × (List (SId)) × Int) : Option (Bool) := (runX (C_sids) Lt_sids (Kret Try.prog [.tmp 4] [.v (.bool)]) f (headOf Try.f22 0) ((Lt_sids 0).mk' x) : Option (ResT [.v (.bool)]))
theorem M_sids_eq (f : Nat) (a : List (SId)) (b : List (SId)) : M_sids (f + 1) (a, b) =
    bif (↑a.length : Int) != (↑b.length : Int) then some false else L_sids_0 f (a, b, 0) := by kernel_rfl
theorem L_sids_0_eq (f : Nat) (a : List (SId)) (b : List (SId)) (i : Int) : L_sids_0 (f + 1) (a, b, i) =
    bif decide (i < (↑a.length : Int)) then bif decide (0 ≤ i) && decide (i < (↑a.length : Int)) then bif decide (0 ≤ i) && decide (i < (↑b.length : Int)) then bif !((a.getD i.toNat (0, 0, 0)).1 == (b.getD i.toNat (0, 0, 0)).1 && ((a.getD i.toNat (0, 0, 0)).2.1 == (b.getD i.toNat (0, 0, 0)).2.1 && ((a.getD i.toNat (0, 0, 0)).2.2 == (b.getD i.toNat (0, 0, 0)).2.2 && true))) then some false else L_sids_0 f (a, b, IntKind.i64.wrap (i + 1)) else none else none else some true := by kernel_rfl
noncomputable def F_sids_0 : List (SId) → ((List (SId)) × (List (SId)) × Nat) → Bool
  | [], (a, b, i) => true
  | uu :: rest, (a, b, i) => bif !(uu.1 == (b.getD (↑i : Int).toNat (0, 0, 0)).1 && (uu.2.1 == (b.getD (↑i : Int).toNat (0, 0, 0)).2.1 && (uu.2.2 == (b.getD (↑i : Int).toNat (0, 0, 0)).2.2 && true))) then false else F_sids_0 rest (a, b, i + 1)
noncomputable def P_sids_0 : List (SId) → ((List (SId)) × (List (SId)) × Nat) → Bool
  | [], (a, b, i) => true
  | uu :: rest, (a, b, i) => decide ((↑i : Int) < (↑b.length : Int)) && bif !(uu.1 == (b.getD (↑i : Int).toNat (0, 0, 0)).1 && (uu.2.1 == (b.getD (↑i : Int).toNat (0, 0, 0)).2.1 && (uu.2.2 == (b.getD (↑i : Int).toNat (0, 0, 0)).2.2 && true))) then true else P_sids_0 rest (a, b, i + 1)
theorem A_sids_0 : ∀ (rest : List (SId)) (a : List (SId)) (b : List (SId)) (i : Nat) (hd : a.drop i = rest) (hl : a.length ≤ 1099511627776), Rns (fun f => L_sids_0 f (a, b, ((i : Nat) : Int))) (P_sids_0 rest (a, b, i)) (F_sids_0 rest (a, b, i))
  | [], a, b, i, hd, hl => ev_step (T := fun f => some true) (fun f => (L_sids_0_eq f _ _ _).trans (by simp only [ge_dec (drop_ge hd), ge0, Bool.and_self, Bool.true_and, cond_true, cond_false, List.length_set] <;> rfl)) ev_some
  | uu :: rest, a, b, i, hd, hl => ev_step (T := fun f => bif decide ((↑i : Int) < (↑b.length : Int)) then bif !(uu.1 == (b.getD (↑i : Int).toNat (0, 0, 0)).1 && (uu.2.1 == (b.getD (↑i : Int).toNat (0, 0, 0)).2.1 && (uu.2.2 == (b.getD (↑i : Int).toNat (0, 0, 0)).2.2 && true))) then some false else L_sids_0 f (a, b, (↑(i + 1) : Int)) else none) (fun f => (L_sids_0_eq f _ _ _).trans (by simp only [lt_dec (drop_lt hd), drop_get hd, wrap_succ (drop_lt hd) hl, getD_set (drop_lt hd), ge0, Bool.and_self, Bool.true_and, cond_true, cond_false, List.length_set] <;> rfl)) (ev_chk (ev_bif ev_some (A_sids_0 rest _ _ _ (by first | exact drop_succ hd | exact drop_set hd | exact drop_setS (drop_set hd)) (by first | exact hl | simpa using hl))))
noncomputable def F_sids : ((List (SId)) × (List (SId))) → Bool
  | (a, b) => bif (↑a.length : Int) != (↑b.length : Int) then false else F_sids_0 a (a, b, 0)
noncomputable def P_sids : ((List (SId)) × (List (SId))) → Bool
  | (a, b) => bif (↑a.length : Int) != (↑b.length : Int) then true else decide (a.length ≤ 1099511627776) && P_sids_0 a (a, b, 0)
theorem sids_auto : ∀ a : (List (SId)) × (List (SId)), Rns (fun f => M_sids f a) (P_sids a) (F_sids a)
  | (a, b) => ev_step (fun f => M_sids_eq f _ _) (ev_bif ev_some (ev_and fun hh => A_sids_0 _ _ _ _ rfl (of_decide_eq_true hh)))
theorem sids_0 : ∀ (r a b t : List SId) (k : Nat), b.drop k = t → r.length = t.length → F_sids_0 r (a, b, k) = decide (r = t) ∧ P_sids_0 r (a, b, k) = true := by
  refine same_loop F_sids_0 P_sids_0 (fun _ _ _ => ⟨rfl, rfl⟩) fun u r a b k v t h => ?_
  simp only [F_sids_0, P_sids_0, drop_get h, lt_dec (drop_lt h), id_eq, Bool.true_and]
  exact ⟨by trivial, fun h => by rw [h]; simp⟩
theorem len_bne {α β : Type} (a : List α) (b : List β) : (((a.length : Nat) : Int) != ((b.length : Nat) : Int)) = !decide (a.length = b.length) := by
  by_cases h : a.length = b.length
  · simp [h]
  · rw [decide_eq_false h]; simp; omega
theorem sids_P : ∀ a : List SId × List SId, len40n a.1 = true → P_sids a = true := fun a h => by
  simp only [P_sids, len_bne]
  by_cases e : a.1.length = a.2.length
  · rw [(sids_0 a.1 a.1 a.2 a.2 0 rfl e).2]; simp [e]; rw [← e]; exact of_decide_eq_true h
  · simp [e]
theorem sids_F : ∀ a : List SId × List SId, len40n a.1 = true → F_sids a = decide (a.1 = a.2) := fun a h => by
  simp only [F_sids, len_bne]
  by_cases e : a.1.length = a.2.length
  · rw [(sids_0 a.1 a.1 a.2 a.2 0 rfl e).1]; simp [e]
  · have : ¬ a.1 = a.2 := fun h => e (by rw [h])
    simp [e, this]
theorem sids_run : ∀ a, (fun a => len40n a.1 : (List (SId)) × (List (SId)) → Bool) a = true → ∃ f, M_sids f a = some ((fun a => decide (a.1 = a.2) : (List (SId)) × (List (SId)) → Bool) a) := fun a h => by have h1 := sids_auto a (sids_P a h); rw [sids_F a h] at h1; exact h1
noncomputable def E_sids : Ent := ⟨22, [.rd tSId, .rd tSId], [.v (.bool)], fun a => (fun a => len40n a.1 : (List (SId)) × (List (SId)) → Bool) a, fun a => (fun a => decide (a.1 = a.2) : (List (SId)) × (List (SId)) → Bool) a⟩
theorem E_sids_ok : E_sids.Ok Try.prog := fun a hp vs hv => (sids_run a hp).elim fun f h => fnX_ok (C := C_sids) (Lt := Lt_sids) (fn := Try.f22) (rs := [.tmp 4]) [.rd tSId, .rd tSId] [.v (.bool)] mixed es_sids Try.func22 rfl rfl rfl (by kernel_rfl) (by kernel_rfl) f h vs hv
/-! ### Capabilities -/
noncomputable def C_crng : Cfg := ⟨Try.prog, [], pmT [], 8, [], []⟩
theorem es_crng : EsOk Try.prog [] [] := es_nil
def Lt_crng : Nat → LD := ldT []
noncomputable def M_crng (f : Nat) (a : SCp) : Option (Rg) := (runX (C_crng) Lt_crng (Kret Try.prog [.cell 2 122] [.g tRg]) f [.code (bodyOf Try.f102)] (initX [.g tSCp] a) : Option (ResT [.g tRg]))
theorem M_crng_eq (f : Nat) (c : SCp) : M_crng (f + 1) c =
    some (c.2.1, c.2.2.1) := by kernel_rfl
noncomputable def F_crng : SCp → Rg
  | c => (c.2.1, c.2.2.1)
noncomputable def P_crng : SCp → Bool
  | c => true
theorem crng_auto : ∀ a : SCp, Rns (fun f => M_crng f a) (P_crng a) (F_crng a)
  | c => ev_step (fun f => M_crng_eq f _) ev_some
theorem crng_P : ∀ a, (fun _ => true) a = true → P_crng a = true := fun _ _ => rfl
theorem crng_F : ∀ a, (fun _ => true) a = true → F_crng a = (fun c : SCp => ((c.2.1, c.2.2.1) : Rg)) a := fun _ _ => rfl
theorem crng_run : ∀ a, (fun _ => true : SCp → Bool) a = true → ∃ f, M_crng f a = some ((fun c => (c.2.1, c.2.2.1) : SCp → Rg) a) := fun a h => by have h1 := crng_auto a (crng_P a h); rw [crng_F a h] at h1; exact h1
noncomputable def E_crng : Ent := ⟨102, [.g tSCp], [.g tRg], fun a => (fun _ => true : SCp → Bool) a, fun a => (fun c => (c.2.1, c.2.2.1) : SCp → Rg) a⟩
theorem E_crng_ok : E_crng.Ok Try.prog := fun a hp vs hv => (crng_run a hp).elim fun f h => fnX_ok (C := C_crng) (Lt := Lt_crng) (fn := Try.f102) (rs := [.cell 2 122]) [.g tSCp] [.g tRg] mixed es_crng Try.func102 rfl rfl rfl (by kernel_rfl) (by kernel_rfl) f h vs hv
def sizB (a : Int × Int) : Bool := (decide (a.1 = 1) && (decide (6 ≤ a.2) && decide (a.2 ≤ 40))) || ((decide (a.1 = 2) && (decide (12 ≤ a.2) && decide (a.2 ≤ 40))) || ((decide (a.1 = 3) && decide (a.2 = 12)) || ((decide (a.1 = 4) && decide (a.2 = 6)) || ((decide (a.1 = 5) && decide (a.2 = 10)) || (decide (a.1 = 6) && decide (a.2 = 16))))))
theorem sizB_iff (k b : Int) : sizB (k, b) = true ↔ (k = 1 ∧ 6 ≤ b ∧ b ≤ 40) ∨ (k = 2 ∧ 12 ≤ b ∧ b ≤ 40) ∨ (k = 3 ∧ b = 12) ∨ (k = 4 ∧ b = 6) ∨ (k = 5 ∧ b = 10) ∨ (k = 6 ∧ b = 16) := by simp [sizB]
noncomputable def C_szal : Cfg := ⟨Try.prog, [], pmT [], 38, [], []⟩
theorem es_szal : EsOk Try.prog [] [] := es_nil
def Lt_szal : Nat → LD := ldT []
noncomputable def M_szal (f : Nat) (a : Int × Int) : Option (Bool) := (runX (C_szal) Lt_szal (Kret Try.prog [.tmp 4] [.v (.bool)]) f [.code (bodyOf Try.f100)] (initX [.c (.int .i64), .c (.int .i64)] a) : Option (ResT [.v (.bool)]))
theorem M_szal_eq (f : Nat) (kind : Int) (bits : Int) : M_szal (f + 1) (kind, bits) =
    bif kind == 1 then bif decide (bits ≥ 6) then some (decide (bits ≤ 40)) else some false else bif kind == 2 then bif decide (bits ≥ 12) then some (decide (bits ≤ 40)) else some false else bif kind == 3 then some (bits == 12) else bif kind == 4 then some (bits == 6) else bif kind == 5 then some (bits == 10) else bif kind == 6 then some (bits == 16) else some false := by kernel_rfl
noncomputable def F_szal : (Int × Int) → Bool
  | (kind, bits) => bif kind == 1 then bif decide (bits ≥ 6) then decide (bits ≤ 40) else false else bif kind == 2 then bif decide (bits ≥ 12) then decide (bits ≤ 40) else false else bif kind == 3 then bits == 12 else bif kind == 4 then bits == 6 else bif kind == 5 then bits == 10 else bif kind == 6 then bits == 16 else false
noncomputable def P_szal : (Int × Int) → Bool
  | (kind, bits) => true
theorem szal_auto : ∀ a : Int × Int, Rns (fun f => M_szal f a) (P_szal a) (F_szal a)
  | (kind, bits) => ev_step (fun f => M_szal_eq f _ _) (ev_bift (ev_bift ev_some ev_some) (ev_bift (ev_bift ev_some ev_some) (ev_bift ev_some (ev_bift ev_some (ev_bift ev_some (ev_bift ev_some ev_some))))))
theorem szal_P : ∀ a, (fun _ => true) a = true → P_szal a = true := fun _ _ => rfl
theorem szal_F : ∀ a, (fun _ => true) a = true → F_szal a = sizB a := by
  rintro ⟨k, b⟩ _
  rw [Bool.eq_iff_iff, sizB_iff]
  simp only [F_szal, bif_and]
  by_cases h1 : k = 1
  · subst h1; simp
  by_cases h2 : k = 2
  · subst h2; simp
  by_cases h3 : k = 3
  · subst h3; simp
  by_cases h4 : k = 4
  · subst h4; simp
  by_cases h5 : k = 5
  · subst h5; simp
  by_cases h6 : k = 6
  · subst h6; simp
  simp [h1, h2, h3, h4, h5, h6]
theorem szal_run : ∀ a, (fun _ => true : Int × Int → Bool) a = true → ∃ f, M_szal f a = some ((sizB : Int × Int → Bool) a) := fun a h => by have h1 := szal_auto a (szal_P a h); rw [szal_F a h] at h1; exact h1
noncomputable def E_szal : Ent := ⟨100, [.c (.int .i64), .c (.int .i64)], [.v (.bool)], fun a => (fun _ => true : Int × Int → Bool) a, fun a => (sizB : Int × Int → Bool) a⟩
theorem E_szal_ok : E_szal.Ok Try.prog := fun a hp vs hv => (szal_run a hp).elim fun f h => fnX_ok (C := C_szal) (Lt := Lt_szal) (fn := Try.f100) (rs := [.tmp 4]) [.c (.int .i64), .c (.int .i64)] [.v (.bool)] mixed es_szal Try.func100 rfl rfl rfl (by kernel_rfl) (by kernel_rfl) f h vs hv
def levB (a : Int × Int) : Bool := decide (0 ≤ a.2) && ((decide (a.1 = 32) && decide (a.2 ≤ 1)) || (decide (a.1 = 39) && decide (a.2 ≤ 2)))
theorem levB_iff (w l : Int) : levB (w, l) = true ↔ 0 ≤ l ∧ ((w = 32 ∧ l ≤ 1) ∨ (w = 39 ∧ l ≤ 2)) := by simp [levB]
noncomputable def C_fmal : Cfg := ⟨Try.prog, [], pmT [], 22, [], []⟩
theorem es_fmal : EsOk Try.prog [] [] := es_nil
def Lt_fmal : Nat → LD := ldT []
noncomputable def M_fmal (f : Nat) (a : Int × Int) : Option (Bool) := (runX (C_fmal) Lt_fmal (Kret Try.prog [.tmp 4] [.v (.bool)]) f [.code (bodyOf Try.f103)] (initX [.c (.int .i64), .c (.int .i64)] a) : Option (ResT [.v (.bool)]))
theorem M_fmal_eq (f : Nat) (width : Int) (level : Int) : M_fmal (f + 1) (width, level) =
    bif width == 32 then bif decide (level ≥ 0) then some (decide (level ≤ 1)) else some false else bif width == 39 then bif decide (level ≥ 0) then some (decide (level ≤ 2)) else some false else some false := by kernel_rfl
noncomputable def F_fmal : (Int × Int) → Bool
  | (width, level) => bif width == 32 then bif decide (level ≥ 0) then decide (level ≤ 1) else false else bif width == 39 then bif decide (level ≥ 0) then decide (level ≤ 2) else false else false
noncomputable def P_fmal : (Int × Int) → Bool
  | (width, level) => true
theorem fmal_auto : ∀ a : Int × Int, Rns (fun f => M_fmal f a) (P_fmal a) (F_fmal a)
  | (width, level) => ev_step (fun f => M_fmal_eq f _ _) (ev_bift (ev_bift ev_some ev_some) (ev_bift (ev_bift ev_some ev_some) ev_some))
theorem fmal_P : ∀ a, (fun _ => true) a = true → P_fmal a = true := fun _ _ => rfl
theorem fmal_F : ∀ a, (fun _ => true) a = true → F_fmal a = levB a := by
  rintro ⟨w, l⟩ _
  rw [Bool.eq_iff_iff, levB_iff]
  simp only [F_fmal, bif_and]
  by_cases h1 : w = 32
  · subst h1; simp
  by_cases h2 : w = 39
  · subst h2; simp
  simp [h1, h2]
theorem fmal_run : ∀ a, (fun _ => true : Int × Int → Bool) a = true → ∃ f, M_fmal f a = some ((levB : Int × Int → Bool) a) := fun a h => by have h1 := fmal_auto a (fmal_P a h); rw [fmal_F a h] at h1; exact h1
noncomputable def E_fmal : Ent := ⟨103, [.c (.int .i64), .c (.int .i64)], [.v (.bool)], fun a => (fun _ => true : Int × Int → Bool) a, fun a => (levB : Int × Int → Bool) a⟩
theorem E_fmal_ok : E_fmal.Ok Try.prog := fun a hp vs hv => (fmal_run a hp).elim fun f h => fnX_ok (C := C_fmal) (Lt := Lt_fmal) (fn := Try.f103) (rs := [.tmp 4]) [.c (.int .i64), .c (.int .i64)] [.v (.bool)] mixed es_fmal Try.func103 rfl rfl rfl (by kernel_rfl) (by kernel_rfl) f h vs hv
theorem beqI (a b : Int) : (a == b) = decide (a = b) := by rw [Bool.eq_iff_iff]; simp
def vcapB (c : SCp) : Bool := sizB (c.1, c.2.2.1) && (valid (c.2.1, c.2.2.1) && (decide (0 ≤ c.2.2.2.1) && (decide (c.2.2.2.1 ≤ 7) && ((bif decide (c.1 = 3) then levB (c.2.2.2.2.1, c.2.2.2.2.2.1) else decide (c.2.2.2.2.1 = 0) && decide (c.2.2.2.2.2.1 = 0)) && (!c.2.2.2.2.2.2 || (decide (c.1 = 1) || decide (c.1 = 2)))))))
theorem bneI (a b : Int) : (a != b) = !decide (a = b) := by rw [bne, beqI]
noncomputable def C_vcap : Cfg := ⟨Try.prog, [E_szal, E_crng, E_valid, E_fmal], pmT [], 55, [], []⟩
theorem es_vcap : EsOk Try.prog [E_szal, E_crng, E_valid, E_fmal] [] := es_cons E_szal_ok (es_cons E_crng_ok (es_cons E_valid_ok (es_cons E_fmal_ok (es_nil))))
def Lt_vcap : Nat → LD := ldT []
noncomputable def M_vcap (f : Nat) (a : SCp) : Option (Bool) := (runX (C_vcap) Lt_vcap (Kret Try.prog [.tmp 2] [.v (.bool)]) f [.code (bodyOf Try.f63)] (initX [.g tSCp] a) : Option (ResT [.v (.bool)]))
theorem M_vcap_eq (f : Nat) (c : SCp) : M_vcap (f + 1) c =
    bif !sizB (c.1, c.2.2.1) then some false else bif !valid (c.2.1, c.2.2.1) then some false else bif decide (c.2.2.2.1 < 0) then some false else bif decide (c.2.2.2.1 > 7) then some false else bif c.1 == 3 then bif !levB (c.2.2.2.2.1, c.2.2.2.2.2.1) then some false else bif !c.2.2.2.2.2.2 then some true else bif c.1 == 1 then some true else some (c.1 == 2) else bif c.2.2.2.2.1 != 0 then some false else bif c.2.2.2.2.2.1 != 0 then some false else bif !c.2.2.2.2.2.2 then some true else bif c.1 == 1 then some true else some (c.1 == 2) := by kernel_rfl
noncomputable def F_vcap : SCp → Bool
  | c => bif !sizB (c.1, c.2.2.1) then false else bif !valid (c.2.1, c.2.2.1) then false else bif decide (c.2.2.2.1 < 0) then false else bif decide (c.2.2.2.1 > 7) then false else bif c.1 == 3 then bif !levB (c.2.2.2.2.1, c.2.2.2.2.2.1) then false else bif !c.2.2.2.2.2.2 then true else bif c.1 == 1 then true else c.1 == 2 else bif c.2.2.2.2.1 != 0 then false else bif c.2.2.2.2.2.1 != 0 then false else bif !c.2.2.2.2.2.2 then true else bif c.1 == 1 then true else c.1 == 2
noncomputable def P_vcap : SCp → Bool
  | c => true
theorem vcap_auto : ∀ a : SCp, Rns (fun f => M_vcap f a) (P_vcap a) (F_vcap a)
  | c => ev_step (fun f => M_vcap_eq f _) (ev_bift ev_some (ev_bift ev_some (ev_bift ev_some (ev_bift ev_some (ev_bift (ev_bift ev_some (ev_bift ev_some (ev_bift ev_some ev_some))) (ev_bift ev_some (ev_bift ev_some (ev_bift ev_some (ev_bift ev_some ev_some)))))))))
theorem vcap_P : ∀ a, (fun _ => true) a = true → P_vcap a = true := fun _ _ => rfl
theorem vcap_F : ∀ a, (fun _ => true) a = true → F_vcap a = vcapB a := by
  rintro ⟨k, b, z, r, w, l, d⟩ _
  simp only [F_vcap, vcapB, beqI, bneI]
  rw [show decide (0 ≤ r) = !decide (r < 0) by rw [← decide_not]; exact decide_eq_decide.2 (by omega), show decide (r ≤ 7) = !decide (r > 7) by rw [← decide_not]; exact decide_eq_decide.2 (by omega)]
  cases sizB (k, z) <;> cases valid (b, z) <;> cases decide (r < 0) <;> cases decide (r > 7) <;> (try rfl)
  by_cases h3 : k = 3
  · subst h3; cases levB (w, l) <;> cases d <;> rfl
  · rw [decide_eq_false h3]
    cases decide (w = 0) <;> cases decide (l = 0) <;> cases d <;> cases decide (k = 1) <;> rfl
theorem vcap_run : ∀ a, (fun _ => true : SCp → Bool) a = true → ∃ f, M_vcap f a = some ((vcapB : SCp → Bool) a) := fun a h => by have h1 := vcap_auto a (vcap_P a h); rw [vcap_F a h] at h1; exact h1
noncomputable def E_vcap : Ent := ⟨63, [.g tSCp], [.v (.bool)], fun a => (fun _ => true : SCp → Bool) a, fun a => (vcapB : SCp → Bool) a⟩
theorem E_vcap_ok : E_vcap.Ok Try.prog := fun a hp vs hv => (vcap_run a hp).elim fun f h => fnX_ok (C := C_vcap) (Lt := Lt_vcap) (fn := Try.f63) (rs := [.tmp 2]) [.g tSCp] [.v (.bool)] mixed es_vcap Try.func63 rfl rfl rfl (by kernel_rfl) (by kernel_rfl) f h vs hv
/-! ### Nodes -/
def nid (n : SNd) : SId := (n.1, n.2.1, n.2.2.1)
def npath (n : SNd) : List SId := n.2.2.2.1
def ncap (n : SNd) : SCp := n.2.2.2.2
theorem take_succ_drop {α : Type} {l r : List α} {u : α} {k : Nat} (h : l.drop k = u :: r) : l.take (k + 1) = l.take k ++ [u] := by
  rw [List.take_add_one, drop_get? h]; rfl
def uniqB {α : Type} [DecidableEq α] : List α → List α → Bool
  | _, [] => true
  | pre, u :: r => !memD u pre && uniqB (pre ++ [u]) r
def vnodB (n : SNd) : Bool := vidB (nid n) && (vcapB (ncap n) && (decide ((npath n).length ≤ 8) && ((npath n).all vidB && (uniqB [] (npath n) && !memD (nid n) (npath n)))))
theorem len8 (n : Nat) : decide ((n : Int) > 8) = !decide (n ≤ 8) := by rw [← decide_not]; exact decide_eq_decide.2 (by omega)
noncomputable def C_nval : Cfg := ⟨Try.prog, [E_vid, E_vcap, E_scon], pmT [(6, ([(0, []), (1, []), (2, []), (3, []), (4, []), (5, []), (6, []), (7, []), (8, []), (9, []), (10, []), (11, []), (12, []), (13, []), (14, []), (15, []), (16, [])], [(29, 45)]))], 47, [], []⟩
theorem es_nval : EsOk Try.prog [E_vid, E_vcap, E_scon] [] := es_cons E_vid_ok (es_cons E_vcap_ok (es_cons E_scon_ok (es_nil)))
def Lt_nval : Nat → LD := ldT [(0, ⟨[.box 1 1 42 11 tSNd, .c 22 (.sl tSId), .c 23 (.int .i64), .c 24 (.int .i64)], [], 0⟩)]
noncomputable def M_nval (f : Nat) (a : SNd) : Option (Bool) := (runX (C_nval) Lt_nval (Kret Try.prog [.tmp 2] [.v (.bool)]) f [.code (bodyOf Try.f52)] (initX [.g tSNd] a) : Option (ResT [.v (.bool)]))
noncomputable def L_nval_0 (f : Nat) (x : SNd × (List (SId)) × Int × Int) : Option (Bool) := (runX (C_nval) Lt_nval (Kret Try.prog [.tmp 2] [.v (.bool)]) f (headOf Try.f52 0) ((Lt_nval 0).mk' x) : Option (ResT [.v (.bool)]))
theorem M_nval_eq (f : Nat) (n : SNd) : M_nval (f + 1) n =
    bif !vidB (n.1, n.2.1, n.2.2.1) then some false else bif !vcapB n.2.2.2.2 then some false else bif decide ((↑(List.length n.2.2.2.1) : Int) > 8) then some false else L_nval_0 f (n, n.2.2.2.1, (↑(List.length n.2.2.2.1) : Int), 0) := by kernel_rfl
theorem L_nval_0_eq (f : Nat) (n : SNd) (x22 : List (SId)) (x23 : Int) (x24 : Int) : L_nval_0 (f + 1) (n, x22, x23, x24) =
    bif decide (x24 < x23) then bif decide (0 ≤ x24) && decide (x24 < (↑x22.length : Int)) then bif !vidB (x22.getD x24.toNat (0, 0, 0)) then some false else bif (x22.getD x24.toNat (0, 0, 0)).1 == n.1 && ((x22.getD x24.toNat (0, 0, 0)).2.1 == n.2.1 && ((x22.getD x24.toNat (0, 0, 0)).2.2 == n.2.2.1 && true)) then some false else bif decide (0 ≤ x24) && decide (x24 ≤ (↑(List.length n.2.2.2.1) : Int)) then bif len40n (List.take x24.toNat n.2.2.2.1) then bif memD (x22.getD x24.toNat (0, 0, 0)) (List.take x24.toNat n.2.2.2.1) then some false else L_nval_0 f (n, x22, x23, IntKind.i64.wrap (x24 + 1)) else none else none else none else some true := by kernel_rfl
noncomputable def F_nval_0 : List (SId) → (SNd × (List (SId)) × Int × Nat) → Bool
  | [], (n, x22, x23, x24) => true
  | uu :: rest, (n, x22, x23, x24) => bif !vidB uu then false else bif uu.1 == n.1 && (uu.2.1 == n.2.1 && (uu.2.2 == n.2.2.1 && true)) then false else bif memD uu (List.take (↑x24 : Int).toNat n.2.2.2.1) then false else F_nval_0 rest (n, x22, x23, x24 + 1)
noncomputable def P_nval_0 : List (SId) → (SNd × (List (SId)) × Int × Nat) → Bool
  | [], (n, x22, x23, x24) => true
  | uu :: rest, (n, x22, x23, x24) => bif !vidB uu then true else bif uu.1 == n.1 && (uu.2.1 == n.2.1 && (uu.2.2 == n.2.2.1 && true)) then true else decide ((↑x24 : Int) ≤ (↑(List.length n.2.2.2.1) : Int)) && (len40n (List.take (↑x24 : Int).toNat n.2.2.2.1) && bif memD uu (List.take (↑x24 : Int).toNat n.2.2.2.1) then true else P_nval_0 rest (n, x22, x23, x24 + 1))
theorem A_nval_0 : ∀ (rest : List (SId)) (n : SNd) (x22 : List (SId)) (x23 : Int) (x24 : Nat) (hd : x22.drop x24 = rest) (hn : x23 = ((x22.length : Nat) : Int)) (hl : x22.length ≤ 1099511627776), Rns (fun f => L_nval_0 f (n, x22, x23, ((x24 : Nat) : Int))) (P_nval_0 rest (n, x22, x23, x24)) (F_nval_0 rest (n, x22, x23, x24))
  | [], n, x22, x23, x24, hd, hn, hl => ev_step (T := fun f => some true) (fun f => (L_nval_0_eq f _ _ _ _).trans (by simp only [ge_decn hn (drop_ge hd), ge0, Bool.and_self, Bool.true_and, cond_true, cond_false, List.length_set] <;> rfl)) ev_some
  | uu :: rest, n, x22, x23, x24, hd, hn, hl => ev_step (T := fun f => bif !vidB uu then some false else bif uu.1 == n.1 && (uu.2.1 == n.2.1 && (uu.2.2 == n.2.2.1 && true)) then some false else bif decide ((↑x24 : Int) ≤ (↑(List.length n.2.2.2.1) : Int)) then bif len40n (List.take (↑x24 : Int).toNat n.2.2.2.1) then bif memD uu (List.take (↑x24 : Int).toNat n.2.2.2.1) then some false else L_nval_0 f (n, x22, x23, (↑(x24 + 1) : Int)) else none else none) (fun f => (L_nval_0_eq f _ _ _ _).trans (by simp only [lt_decn hn (drop_lt hd), lt_dec (drop_lt hd), drop_get hd, wrap_succ (drop_lt hd) hl, getD_set (drop_lt hd), ge0, Bool.and_self, Bool.true_and, cond_true, cond_false, List.length_set] <;> rfl)) (ev_bif ev_some (ev_bif ev_some (ev_chk (ev_chk (ev_bif ev_some (A_nval_0 rest _ _ _ _ (by first | exact drop_succ hd | exact drop_set hd | exact drop_setS (drop_set hd)) (by first | exact hn | simpa using hn) (by first | exact hl | simpa using hl)))))))
noncomputable def F_nval : SNd → Bool
  | n => bif !vidB (n.1, n.2.1, n.2.2.1) then false else bif !vcapB n.2.2.2.2 then false else bif decide ((↑(List.length n.2.2.2.1) : Int) > 8) then false else F_nval_0 n.2.2.2.1 (n, n.2.2.2.1, (↑(List.length n.2.2.2.1) : Int), 0)
noncomputable def P_nval : SNd → Bool
  | n => bif !vidB (n.1, n.2.1, n.2.2.1) then true else bif !vcapB n.2.2.2.2 then true else bif decide ((↑(List.length n.2.2.2.1) : Int) > 8) then true else decide (List.length n.2.2.2.1 ≤ 1099511627776) && P_nval_0 n.2.2.2.1 (n, n.2.2.2.1, (↑(List.length n.2.2.2.1) : Int), 0)
theorem nval_auto : ∀ a : SNd, Rns (fun f => M_nval f a) (P_nval a) (F_nval a)
  | n => ev_step (fun f => M_nval_eq f _) (ev_bif ev_some (ev_bif ev_some (ev_bif ev_some (ev_and fun hh => A_nval_0 _ _ _ _ _ rfl (by first | rfl | simp) (of_decide_eq_true hh)))))
theorem nval_0 (n : SNd) (hl : (npath n).length ≤ 8) (l : List SId) (m : Int) : ∀ (rest : List SId) (k : Nat), (npath n).drop k = rest → k ≤ (npath n).length → F_nval_0 rest (n, l, m, k) = (rest.all vidB && (uniqB ((npath n).take k) rest && !memD (nid n) rest)) ∧ P_nval_0 rest (n, l, m, k) = true
  | [], k, h, hk => ⟨by simp [F_nval_0, uniqB, memD], rfl⟩
  | u :: r, k, h, hk => by
    obtain ⟨i1, i2⟩ := nval_0 n hl l m r (k + 1) (drop_succ h) (drop_lt h)
    have e : (u.1 == n.1 && (u.2.1 == n.2.1 && (u.2.2 == n.2.2.1 && true))) = decide (u = nid n) := id_eq u (nid n)
    constructor
    · show (bif !vidB u then false else bif u.1 == n.1 && (u.2.1 == n.2.1 && (u.2.2 == n.2.2.1 && true)) then false else bif memD u ((npath n).take k) then false else F_nval_0 r (n, l, m, k + 1)) = _
      rw [i1, take_succ_drop h, List.all_cons, uniqB, e]
      by_cases hu : u = nid n
      · subst hu; rw [memD_cons]; cases vidB (nid n) <;> simp
      · rw [memD_cons, decide_eq_false hu]
        cases vidB u <;> cases memD u (List.take k (npath n)) <;> simp
    · show (bif !vidB u then true else bif u.1 == n.1 && (u.2.1 == n.2.1 && (u.2.2 == n.2.2.1 && true)) then true else decide ((k : Int) ≤ (((npath n).length : Nat) : Int)) && (len40n ((npath n).take k) && bif memD u ((npath n).take k) then true else P_nval_0 r (n, l, m, k + 1))) = true
      rw [i2, show decide ((k : Int) ≤ (((npath n).length : Nat) : Int)) = true from decide_eq_true (by omega), show len40n ((npath n).take k) = true from decide_eq_true (by rw [List.length_take]; omega), e]
      cases vidB u <;> cases decide (u = nid n) <;> cases memD u (List.take k (npath n)) <;> rfl
theorem nval_F : ∀ a, (fun _ => true) a = true → F_nval a = vnodB a := by
  intro n _
  show (bif !vidB (nid n) then false else bif !vcapB (ncap n) then false else bif decide ((((npath n).length : Nat) : Int) > 8) then false else F_nval_0 (npath n) (n, npath n, (((npath n).length : Nat) : Int), 0)) = _
  rw [len8, vnodB]
  cases vidB (nid n) <;> cases vcapB (ncap n) <;> (try rfl)
  by_cases h : (npath n).length ≤ 8
  · rw [decide_eq_true h, (nval_0 n h _ _ (npath n) 0 rfl (by omega)).1]; simp
  · rw [decide_eq_false h]; rfl
theorem nval_P : ∀ a, (fun _ => true) a = true → P_nval a = true := by
  intro n _
  show (bif !vidB (nid n) then true else bif !vcapB (ncap n) then true else bif decide ((((npath n).length : Nat) : Int) > 8) then true else decide ((npath n).length ≤ 1099511627776) && P_nval_0 (npath n) (n, npath n, (((npath n).length : Nat) : Int), 0)) = true
  rw [len8]
  cases vidB (nid n) <;> cases vcapB (ncap n) <;> (try rfl)
  by_cases h : (npath n).length ≤ 8
  · rw [decide_eq_true h, (nval_0 n h _ _ (npath n) 0 rfl (by omega)).2, show decide ((npath n).length ≤ 1099511627776) = true from decide_eq_true (by omega)]; rfl
  · rw [decide_eq_false h]; rfl
theorem nval_run : ∀ a, (fun _ => true : SNd → Bool) a = true → ∃ f, M_nval f a = some ((vnodB : SNd → Bool) a) := fun a h => by have h1 := nval_auto a (nval_P a h); rw [nval_F a h] at h1; exact h1
noncomputable def E_nval : Ent := ⟨52, [.g tSNd], [.v (.bool)], fun a => (fun _ => true : SNd → Bool) a, fun a => (vnodB : SNd → Bool) a⟩
theorem E_nval_ok : E_nval.Ok Try.prog := fun a hp vs hv => (nval_run a hp).elim fun f h => fnX_ok (C := C_nval) (Lt := Lt_nval) (fn := Try.f52) (rs := [.tmp 2]) [.g tSNd] [.v (.bool)] mixed es_nval Try.func52 rfl rfl rfl (by kernel_rfl) (by kernel_rfl) f h vs hv
end Go.AL
