/-
  Ids, capabilities, nodes: contracts of the functions of layers 11 and 12 that a seat has. By an AI agent.
-/
import Derived.Test.YtjlcdgjcbienbaaG0
namespace Go.AL
open Go.Proofs
set_option linter.unusedVariables false
set_option linter.unusedSimpArgs false
abbrev tSId : List Ty := [.int .i64, .int .i64, .int .i64]
abbrev SId := Int × Int × Int
abbrev tSCp : List Ty := [.int .i64, .int .i64, .int .i64, .int .i64, .int .i64, .int .i64, .bool]
abbrev SCp := Int × Int × Int × Int × Int × Int × Bool
abbrev tSNd : List Ty := [.int .i64, .int .i64, .int .i64, .sl [.int .i64, .int .i64, .int .i64], .int .i64, .int .i64, .int .i64, .int .i64, .int .i64, .int .i64, .bool]
abbrev SNd := Int × Int × Int × (List (Int × Int × Int)) × Int × Int × Int × Int × Int × Int × Bool
theorem id_eq (a b : SId) : (a.1 == b.1 && (a.2.1 == b.2.1 && (a.2.2 == b.2.2 && true))) = decide (a = b) := by
  obtain ⟨a1, a2, a3⟩ := a
  obtain ⟨b1, b2, b3⟩ := b
  by_cases h : ((a1, a2, a3) : SId) = (b1, b2, b3)
  · cases h; simp
  · rw [decide_eq_false h]
    cases e : (a1 == b1 && (a2 == b2 && (a3 == b3 && true))) with
    | false => rfl
    | true =>
      simp only [Bool.and_true, Bool.and_eq_true, beq_iff_eq] at e
      obtain ⟨rfl, rfl, rfl⟩ := e
      exact absurd rfl h
/-! ### Ids -/
def vidB (id : SId) : Bool := decide (0 ≤ id.1) && (decide (id.1 < 32) && (decide (1 ≤ id.2.1) && (decide (id.2.1 ≤ 1073741824) && (decide (0 ≤ id.2.2) && decide (id.2.2 < 8)))))
theorem vidB_iff (id : SId) : vidB id = true ↔ 0 ≤ id.1 ∧ id.1 < 32 ∧ 1 ≤ id.2.1 ∧ id.2.1 ≤ 1073741824 ∧ 0 ≤ id.2.2 ∧ id.2.2 < 8 := by simp [vidB]
theorem bif_and {a b : Bool} : (bif a then b else false) = (a && b) := by cases a <;> rfl
instance decCp : DecidableEq SCp := @instDecidableEqProd Int _ _ (@instDecidableEqProd Int _ _ (@instDecidableEqProd Int _ _ inferInstance))
def memD {α : Type} [DecidableEq α] (v : α) (l : List α) : Bool := decide (v ∈ l)
theorem memD_not {α : Type} [DecidableEq α] {v : α} {l : List α} : memD v l = false ↔ ¬ v ∈ l := by simp [memD]
theorem memD_cons {α : Type} [DecidableEq α] (v u : α) (l : List α) : memD v (u :: l) = (decide (u = v) || memD v l) := by
  by_cases h : u = v
  · subst h; simp [memD]
  · have h2 : ¬ v = u := fun e => h e.symm
    simp [memD, h, h2]
instance decNd : DecidableEq SNd := @instDecidableEqProd Int _ _ (@instDecidableEqProd Int _ _ (@instDecidableEqProd Int _ _ (@instDecidableEqProd (List SId) SCp _ decCp)))
noncomputable def C_vid : Cfg := ⟨Try.prog, [], pmT [], 31, [], []⟩
theorem es_vid : EsOk Try.prog [] [] := es_nil
def Lt_vid : Nat → LD := ldT []
noncomputable def M_vid (f : Nat) (a : SId) : Option (Bool) := (runX (C_vid) Lt_vid (Kret Try.prog [.tmp 2] [.v (.bool)]) f [.code (bodyOf Try.f73)] (initX [.g tSId] a) : Option (ResT [.v (.bool)]))
theorem M_vid_eq (f : Nat) (id : SId) : M_vid (f + 1) id =
    bif decide (id.1 ≥ 0) then bif decide (id.1 < 32) then bif decide (id.2.1 ≥ 1) then bif decide (id.2.1 ≤ 1073741824) then bif decide (id.2.2 ≥ 0) then some (decide (id.2.2 < 8)) else some false else some false else some false else some false else some false := by kernel_rfl
noncomputable def F_vid : SId → Bool
  | id => bif decide (id.1 ≥ 0) then bif decide (id.1 < 32) then bif decide (id.2.1 ≥ 1) then bif decide (id.2.1 ≤ 1073741824) then bif decide (id.2.2 ≥ 0) then decide (id.2.2 < 8) else false else false else false else false else false
noncomputable def P_vid : SId → Bool
  | id => true
theorem vid_auto : ∀ a : SId, Rns (fun f => M_vid f a) (P_vid a) (F_vid a)
  | id => ev_step (fun f => M_vid_eq f _) (ev_bift (ev_bift (ev_bift (ev_bift (ev_bift ev_some ev_some) ev_some) ev_some) ev_some) ev_some)
theorem vid_P : ∀ a, (fun _ => true) a = true → P_vid a = true := fun _ _ => rfl
theorem vid_F : ∀ a, (fun _ => true) a = true → F_vid a = vidB a := fun a _ => by simp only [F_vid, vidB, bif_and, ge_iff_le]
theorem vid_run : ∀ a, (fun _ => true : SId → Bool) a = true → ∃ f, M_vid f a = some ((vidB : SId → Bool) a) := fun a h => by have h1 := vid_auto a (vid_P a h); rw [vid_F a h] at h1; exact h1
noncomputable def E_vid : Ent := ⟨73, [.g tSId], [.v (.bool)], fun a => (fun _ => true : SId → Bool) a, fun a => (vidB : SId → Bool) a⟩
theorem E_vid_ok : E_vid.Ok Try.prog := fun a hp vs hv => (vid_run a hp).elim fun f h => fnX_ok (C := C_vid) (Lt := Lt_vid) (fn := Try.f73) (rs := [.tmp 2]) [.g tSId] [.v (.bool)] mixed es_vid Try.func73 rfl rfl rfl (by kernel_rfl) (by kernel_rfl) f h vs hv
noncomputable def C_rvid : Cfg := ⟨Try.prog, [], pmT [], 31, [], []⟩
theorem es_rvid : EsOk Try.prog [] [] := es_nil
def Lt_rvid : Nat → LD := ldT []
noncomputable def M_rvid (f : Nat) (a : SId) : Option (Bool) := (runX (C_rvid) Lt_rvid (Kret Try.prog [.tmp 2] [.v (.bool)]) f [.code (bodyOf Try.f55)] (initX [.g tSId] a) : Option (ResT [.v (.bool)]))
theorem M_rvid_eq (f : Nat) (id : SId) : M_rvid (f + 1) id =
    bif decide (id.1 ≥ 0) then bif decide (id.1 < 32) then bif decide (id.2.1 ≥ 1) then bif decide (id.2.1 ≤ 1073741824) then bif decide (id.2.2 ≥ 0) then some (decide (id.2.2 < 8)) else some false else some false else some false else some false else some false := by kernel_rfl
noncomputable def F_rvid : SId → Bool
  | id => bif decide (id.1 ≥ 0) then bif decide (id.1 < 32) then bif decide (id.2.1 ≥ 1) then bif decide (id.2.1 ≤ 1073741824) then bif decide (id.2.2 ≥ 0) then decide (id.2.2 < 8) else false else false else false else false else false
noncomputable def P_rvid : SId → Bool
  | id => true
theorem rvid_auto : ∀ a : SId, Rns (fun f => M_rvid f a) (P_rvid a) (F_rvid a)
  | id => ev_step (fun f => M_rvid_eq f _) (ev_bift (ev_bift (ev_bift (ev_bift (ev_bift ev_some ev_some) ev_some) ev_some) ev_some) ev_some)
theorem rvid_P : ∀ a, (fun _ => true) a = true → P_rvid a = true := fun _ _ => rfl
theorem rvid_F : ∀ a, (fun _ => true) a = true → F_rvid a = vidB a := fun a _ => by simp only [F_rvid, vidB, bif_and, ge_iff_le]
theorem rvid_run : ∀ a, (fun _ => true : SId → Bool) a = true → ∃ f, M_rvid f a = some ((vidB : SId → Bool) a) := fun a h => by have h1 := rvid_auto a (rvid_P a h); rw [rvid_F a h] at h1; exact h1
noncomputable def E_rvid : Ent := ⟨55, [.g tSId], [.v (.bool)], fun a => (fun _ => true : SId → Bool) a, fun a => (vidB : SId → Bool) a⟩
theorem E_rvid_ok : E_rvid.Ok Try.prog := fun a hp vs hv => (rvid_run a hp).elim fun f h => fnX_ok (C := C_rvid) (Lt := Lt_rvid) (fn := Try.f55) (rs := [.tmp 2]) [.g tSId] [.v (.bool)] mixed es_rvid Try.func55 rfl rfl rfl (by kernel_rfl) (by kernel_rfl) f h vs hv
noncomputable def C_nan : Cfg := ⟨Try.prog, [], pmT [], 6, [], []⟩
theorem es_nan : EsOk Try.prog [] [] := es_nil
def Lt_nan : Nat → LD := ldT []
noncomputable def M_nan (f : Nat) (a : Int) : Option (Bool) := (runX (C_nan) Lt_nan (Kret Try.prog [.tmp 2] [.v (.bool)]) f [.code (bodyOf Try.f103)] (initX [.c (.int .i64)] a) : Option (ResT [.v (.bool)]))
theorem M_nan_eq (f : Nat) (x : Int) : M_nan (f + 1) x =
    some (x != x) := by kernel_rfl
noncomputable def F_nan : Int → Bool
  | x => x != x
noncomputable def P_nan : Int → Bool
  | x => true
theorem nan_auto : ∀ a : Int, Rns (fun f => M_nan f a) (P_nan a) (F_nan a)
  | x => ev_step (fun f => M_nan_eq f _) ev_some
theorem nan_P : ∀ a, (fun _ => true) a = true → P_nan a = true := fun _ _ => rfl
theorem nan_F : ∀ a, (fun _ => true) a = true → F_nan a = (fun _ => false) a := fun a _ => by simp [F_nan]
theorem nan_run : ∀ a, (fun _ => true : Int → Bool) a = true → ∃ f, M_nan f a = some ((fun _ => false : Int → Bool) a) := fun a h => by have h1 := nan_auto a (nan_P a h); rw [nan_F a h] at h1; exact h1
noncomputable def E_nan : Ent := ⟨103, [.c (.int .i64)], [.v (.bool)], fun a => (fun _ => true : Int → Bool) a, fun a => (fun _ => false : Int → Bool) a⟩
theorem E_nan_ok : E_nan.Ok Try.prog := fun a hp vs hv => (nan_run a hp).elim fun f h => fnX_ok (C := C_nan) (Lt := Lt_nan) (fn := Try.f103) (rs := [.tmp 2]) [.c (.int .i64)] [.v (.bool)] mixed es_nan Try.func103 rfl rfl rfl (by kernel_rfl) (by kernel_rfl) f h vs hv
noncomputable def C_ccmp : Cfg := ⟨Try.prog, [E_nan], pmT [], 20, [], []⟩
theorem es_ccmp : EsOk Try.prog [E_nan] [] := es_cons E_nan_ok (es_nil)
def Lt_ccmp : Nat → LD := ldT []
noncomputable def M_ccmp (f : Nat) (a : Int × Int) : Option (Int) := (runX (C_ccmp) Lt_ccmp (Kret Try.prog [.tmp 4] [.v (.int .i64)]) f [.code (bodyOf Try.f82)] (initX [.c (.int .i64), .c (.int .i64)] a) : Option (ResT [.v (.int .i64)]))
theorem M_ccmp_eq (f : Nat) (x : Int) (y : Int) : M_ccmp (f + 1) (x, y) =
    bif decide (x < y) then some (-1) else bif decide (x > y) then some 1 else some 0 := by kernel_rfl
noncomputable def F_ccmp : (Int × Int) → Int
  | (x, y) => bif decide (x < y) then -1 else bif decide (x > y) then 1 else 0
noncomputable def P_ccmp : (Int × Int) → Bool
  | (x, y) => true
theorem ccmp_auto : ∀ a : Int × Int, Rns (fun f => M_ccmp f a) (P_ccmp a) (F_ccmp a)
  | (x, y) => ev_step (fun f => M_ccmp_eq f _ _) (ev_bift ev_some (ev_bift ev_some ev_some))
def cmpI (a : Int × Int) : Int := bif decide (a.1 < a.2) then -1 else bif decide (a.1 > a.2) then 1 else 0
theorem ccmp_P : ∀ a, (fun _ => true) a = true → P_ccmp a = true := fun _ _ => rfl
theorem ccmp_F : ∀ a, (fun _ => true) a = true → F_ccmp a = cmpI a := fun _ _ => rfl
theorem ccmp_run : ∀ a, (fun _ => true : Int × Int → Bool) a = true → ∃ f, M_ccmp f a = some ((cmpI : Int × Int → Int) a) := fun a h => by have h1 := ccmp_auto a (ccmp_P a h); rw [ccmp_F a h] at h1; exact h1
noncomputable def E_ccmp : Ent := ⟨82, [.c (.int .i64), .c (.int .i64)], [.v (.int .i64)], fun a => (fun _ => true : Int × Int → Bool) a, fun a => (cmpI : Int × Int → Int) a⟩
theorem E_ccmp_ok : E_ccmp.Ok Try.prog := fun a hp vs hv => (ccmp_run a hp).elim fun f h => fnX_ok (C := C_ccmp) (Lt := Lt_ccmp) (fn := Try.f82) (rs := [.tmp 4]) [.c (.int .i64), .c (.int .i64)] [.v (.int .i64)] mixed es_ccmp Try.func82 rfl rfl rfl (by kernel_rfl) (by kernel_rfl) f h vs hv
noncomputable def C_cor : Cfg := ⟨Try.prog, [], pmT [], 18, [], []⟩
theorem es_cor : EsOk Try.prog [] [] := es_nil
def Lt_cor : Nat → LD := ldT [(0, ⟨[.c 3 (.int .i64), .rd 6 [.int .i64], .c 7 (.int .i64), .c 8 (.int .i64)], [], 0⟩)]
noncomputable def M_cor (f : Nat) (a : (List (Int))) : Option (Int) := (runX (C_cor) Lt_cor (Kret Try.prog [.tmp 2] [.v (.int .i64)]) f [.code (bodyOf Try.f81)] (initX [.rd [.int .i64]] a) : Option (ResT [.v (.int .i64)]))
noncomputable def L_cor_0 (f : Nat) (x : Int × (List (Int)) × Int × Int) : Option (Int) := (runX (C_cor) Lt_cor (Kret Try.prog [.tmp 2] [.v (.int .i64)]) f (headOf Try.f81 0) ((Lt_cor 0).mk' x) : Option (ResT [.v (.int .i64)]))
theorem M_cor_eq (f : Nat) (l : List (Int)) : M_cor (f + 1) l =
    L_cor_0 f (0, l, (↑l.length : Int), 0) := by kernel_rfl
theorem L_cor_0_eq (f : Nat) (zero : Int) (x6 : List (Int)) (x7 : Int) (x8 : Int) : L_cor_0 (f + 1) (zero, x6, x7, x8) =
    bif decide (x8 < x7) then bif decide (0 ≤ x8) && decide (x8 < (↑x6.length : Int)) then bif x6.getD x8.toNat 0 != zero then some (x6.getD x8.toNat 0) else L_cor_0 f (zero, x6, x7, IntKind.i64.wrap (x8 + 1)) else none else some zero := by kernel_rfl
noncomputable def F_cor_0 : List (Int) → (Int × (List (Int)) × Int × Nat) → Int
  | [], (zero, x6, x7, x8) => zero
  | uu :: rest, (zero, x6, x7, x8) => bif uu != zero then uu else F_cor_0 rest (zero, x6, x7, x8 + 1)
noncomputable def P_cor_0 : List (Int) → (Int × (List (Int)) × Int × Nat) → Bool
  | [], (zero, x6, x7, x8) => true
  | uu :: rest, (zero, x6, x7, x8) => bif uu != zero then true else P_cor_0 rest (zero, x6, x7, x8 + 1)
theorem A_cor_0 : ∀ (rest : List (Int)) (zero : Int) (x6 : List (Int)) (x7 : Int) (x8 : Nat) (hd : x6.drop x8 = rest) (hn : x7 = ((x6.length : Nat) : Int)) (hl : x6.length ≤ 1099511627776), Rns (fun f => L_cor_0 f (zero, x6, x7, ((x8 : Nat) : Int))) (P_cor_0 rest (zero, x6, x7, x8)) (F_cor_0 rest (zero, x6, x7, x8))
  | [], zero, x6, x7, x8, hd, hn, hl => ev_step (T := fun f => some zero) (fun f => (L_cor_0_eq f _ _ _ _).trans (by simp only [ge_decn hn (drop_ge hd), ge0, Bool.and_self, Bool.true_and, cond_true, cond_false, List.length_set] <;> rfl)) ev_some
  | uu :: rest, zero, x6, x7, x8, hd, hn, hl => ev_step (T := fun f => bif uu != zero then some uu else L_cor_0 f (zero, x6, x7, (↑(x8 + 1) : Int))) (fun f => (L_cor_0_eq f _ _ _ _).trans (by simp only [lt_decn hn (drop_lt hd), lt_dec (drop_lt hd), drop_get hd, wrap_succ (drop_lt hd) hl, getD_set (drop_lt hd), ge0, Bool.and_self, Bool.true_and, cond_true, cond_false, List.length_set] <;> rfl)) (ev_bif ev_some (A_cor_0 rest _ _ _ _ (by first | exact drop_succ hd | exact drop_set hd | exact drop_setS (drop_set hd)) (by first | exact hn | simpa using hn) (by first | exact hl | simpa using hl)))
noncomputable def F_cor : (List (Int)) → Int
  | l => F_cor_0 l (0, l, (↑l.length : Int), 0)
noncomputable def P_cor : (List (Int)) → Bool
  | l => decide (l.length ≤ 1099511627776) && P_cor_0 l (0, l, (↑l.length : Int), 0)
theorem cor_auto : ∀ a : (List (Int)), Rns (fun f => M_cor f a) (P_cor a) (F_cor a)
  | l => ev_step (fun f => M_cor_eq f _) (ev_and fun hh => A_cor_0 _ _ _ _ _ rfl (by first | rfl | simp) (of_decide_eq_true hh))
def orI : List Int → Int
  | [] => 0
  | u :: r => bif u != 0 then u else orI r
theorem cor_0P : ∀ (rest l : List Int) (n : Int) (k : Nat), P_cor_0 rest (0, l, n, k) = true
  | [], l, n, k => rfl
  | u :: r, l, n, k => by simp only [P_cor_0]; rw [cor_0P r]; cases (u != 0) <;> rfl
theorem cor_0F : ∀ (rest l : List Int) (n : Int) (k : Nat), F_cor_0 rest (0, l, n, k) = orI rest
  | [], l, n, k => rfl
  | u :: r, l, n, k => by simp only [F_cor_0, orI]; rw [cor_0F r]
theorem cor_P : ∀ a, len40n a = true → P_cor a = true := fun a h => by simp only [P_cor, cor_0P, Bool.and_true]; exact h
theorem cor_F : ∀ a, len40n a = true → F_cor a = orI a := fun a h => by simp only [F_cor, cor_0F]
theorem cor_run : ∀ a, (len40n : (List (Int)) → Bool) a = true → ∃ f, M_cor f a = some ((orI : (List (Int)) → Int) a) := fun a h => by have h1 := cor_auto a (cor_P a h); rw [cor_F a h] at h1; exact h1
noncomputable def E_cor : Ent := ⟨81, [.rd [.int .i64]], [.v (.int .i64)], fun a => (len40n : (List (Int)) → Bool) a, fun a => (orI : (List (Int)) → Int) a⟩
theorem E_cor_ok : E_cor.Ok Try.prog := fun a hp vs hv => (cor_run a hp).elim fun f h => fnX_ok (C := C_cor) (Lt := Lt_cor) (fn := Try.f81) (rs := [.tmp 2]) [.rd [.int .i64]] [.v (.int .i64)] mixed es_cor Try.func81 rfl rfl rfl (by kernel_rfl) (by kernel_rfl) f h vs hv
noncomputable def C_ncmp : Cfg := ⟨Try.prog, [E_ccmp, E_cor], pmT [(1, ([(0, []), (1, []), (2, []), (3, []), (5, []), (6, []), (7, []), (8, []), (10, []), (11, []), (12, []), (13, []), (4, []), (9, []), (14, []), (15, []), (16, []), (17, [])], [(4, 21)]))], 22, [], []⟩
theorem es_ncmp : EsOk Try.prog [E_ccmp, E_cor] [] := es_cons E_ccmp_ok (es_cons E_cor_ok (es_nil))
def Lt_ncmp : Nat → LD := ldT []
noncomputable def M_ncmp (f : Nat) (a : SId × SId) : Option (Int) := (runX (C_ncmp) Lt_ncmp (Kret Try.prog [.tmp 4] [.v (.int .i64)]) f [.code (bodyOf Try.f65)] (initX [.g tSId, .g tSId] a) : Option (ResT [.v (.int .i64)]))
theorem M_ncmp_eq (f : Nat) (a : SId) (b : SId) : M_ncmp (f + 1) (a, b) =
    some (orI [cmpI (a.1, b.1), cmpI (a.2.1, b.2.1), cmpI (a.2.2, b.2.2)]) := by kernel_rfl
noncomputable def F_ncmp : (SId × SId) → Int
  | (a, b) => orI [cmpI (a.1, b.1), cmpI (a.2.1, b.2.1), cmpI (a.2.2, b.2.2)]
noncomputable def P_ncmp : (SId × SId) → Bool
  | (a, b) => true
theorem ncmp_auto : ∀ a : SId × SId, Rns (fun f => M_ncmp f a) (P_ncmp a) (F_ncmp a)
  | (a, b) => ev_step (fun f => M_ncmp_eq f _ _) ev_some
def cmpId (a : SId × SId) : Int := bif cmpI (a.1.1, a.2.1) != 0 then cmpI (a.1.1, a.2.1) else bif cmpI (a.1.2.1, a.2.2.1) != 0 then cmpI (a.1.2.1, a.2.2.1) else bif cmpI (a.1.2.2, a.2.2.2) != 0 then cmpI (a.1.2.2, a.2.2.2) else 0
theorem ncmp_P : ∀ a, (fun _ => true) a = true → P_ncmp a = true := fun _ _ => rfl
theorem ncmp_F : ∀ a, (fun _ => true) a = true → F_ncmp a = cmpId a := fun _ _ => rfl
theorem ncmp_run : ∀ a, (fun _ => true : SId × SId → Bool) a = true → ∃ f, M_ncmp f a = some ((cmpId : SId × SId → Int) a) := fun a h => by have h1 := ncmp_auto a (ncmp_P a h); rw [ncmp_F a h] at h1; exact h1
noncomputable def E_ncmp : Ent := ⟨65, [.g tSId, .g tSId], [.v (.int .i64)], fun a => (fun _ => true : SId × SId → Bool) a, fun a => (cmpId : SId × SId → Int) a⟩
theorem E_ncmp_ok : E_ncmp.Ok Try.prog := fun a hp vs hv => (ncmp_run a hp).elim fun f h => fnX_ok (C := C_ncmp) (Lt := Lt_ncmp) (fn := Try.f65) (rs := [.tmp 4]) [.g tSId, .g tSId] [.v (.int .i64)] mixed es_ncmp Try.func65 rfl rfl rfl (by kernel_rfl) (by kernel_rfl) f h vs hv
noncomputable def C_less : Cfg := ⟨Try.prog, [], pmT [], 30, [], []⟩
theorem es_less : EsOk Try.prog [] [] := es_nil
def Lt_less : Nat → LD := ldT []
noncomputable def M_less (f : Nat) (a : SId × SId) : Option (Bool) := (runX (C_less) Lt_less (Kret Try.prog [.tmp 4] [.v (.bool)]) f [.code (bodyOf Try.f66)] (initX [.g tSId, .g tSId] a) : Option (ResT [.v (.bool)]))
theorem M_less_eq (f : Nat) (a : SId) (b : SId) : M_less (f + 1) (a, b) =
    bif a.1 != b.1 then some (decide (a.1 < b.1)) else bif a.2.1 != b.2.1 then some (decide (a.2.1 < b.2.1)) else some (decide (a.2.2 < b.2.2)) := by kernel_rfl
noncomputable def F_less : (SId × SId) → Bool
  | (a, b) => bif a.1 != b.1 then decide (a.1 < b.1) else bif a.2.1 != b.2.1 then decide (a.2.1 < b.2.1) else decide (a.2.2 < b.2.2)
noncomputable def P_less : (SId × SId) → Bool
  | (a, b) => true
theorem less_auto : ∀ a : SId × SId, Rns (fun f => M_less f a) (P_less a) (F_less a)
  | (a, b) => ev_step (fun f => M_less_eq f _ _) (ev_bift ev_some (ev_bift ev_some ev_some))
def lessI (a : SId × SId) : Bool := bif a.1.1 != a.2.1 then decide (a.1.1 < a.2.1) else bif a.1.2.1 != a.2.2.1 then decide (a.1.2.1 < a.2.2.1) else decide (a.1.2.2 < a.2.2.2)
theorem less_P : ∀ a, (fun _ => true) a = true → P_less a = true := fun _ _ => rfl
theorem less_F : ∀ a, (fun _ => true) a = true → F_less a = lessI a := fun _ _ => rfl
theorem less_run : ∀ a, (fun _ => true : SId × SId → Bool) a = true → ∃ f, M_less f a = some ((lessI : SId × SId → Bool) a) := fun a h => by have h1 := less_auto a (less_P a h); rw [less_F a h] at h1; exact h1
noncomputable def E_less : Ent := ⟨66, [.g tSId, .g tSId], [.v (.bool)], fun a => (fun _ => true : SId × SId → Bool) a, fun a => (lessI : SId × SId → Bool) a⟩
theorem E_less_ok : E_less.Ok Try.prog := fun a hp vs hv => (less_run a hp).elim fun f h => fnX_ok (C := C_less) (Lt := Lt_less) (fn := Try.f66) (rs := [.tmp 4]) [.g tSId, .g tSId] [.v (.bool)] mixed es_less Try.func66 rfl rfl rfl (by kernel_rfl) (by kernel_rfl) f h vs hv
/-! ### Lists of ids -/
theorem beq_dec (u v : Int) : (v == u) = decide (u = v) := by
  by_cases h : u = v
  · subst h; simp
  · rw [decide_eq_false h]; exact beq_eq_false_iff_ne.2 (fun e => h e.symm)
def idxI {α : Type} [DecidableEq α] : List α → α → Int → Int
  | [], _, _ => -1
  | u :: r, v, k => bif decide (u = v) then k else idxI r v (k + 1)
theorem idxI_ge {α : Type} [DecidableEq α] (v : α) : ∀ (l : List α) (k : Int), 0 ≤ k → decide (idxI l v k ≥ 0) = memD v l
  | [], k, h => by simp [idxI, memD]
  | u :: r, k, h => by
    rw [memD_cons]
    by_cases e : u = v
    · subst e; simp [idxI, h]
    · have h1 : idxI (u :: r) v k = idxI r v (k + 1) := by simp [idxI, e]
      rw [h1, idxI_ge v r (k + 1) (by omega), decide_eq_false e]; rfl
noncomputable def C_sidx : Cfg := ⟨Try.prog, [], pmT [(4, ([(0, []), (1, []), (2, []), (3, []), (4, []), (5, [])], [(11, 16)]))], 19, [], []⟩
theorem es_sidx : EsOk Try.prog [] [] := es_nil
def Lt_sidx : Nat → LD := ldT [(0, ⟨[.rd 0 tSId, .box 3 3 26 3 tSId, .c 7 (.int .i64), .c 8 (.int .i64)], [], 0⟩)]
noncomputable def M_sidx (f : Nat) (a : (List (SId)) × SId) : Option (Int) := (runX (C_sidx) Lt_sidx (Kret Try.prog [.tmp 4] [.v (.int .i64)]) f [.code (bodyOf Try.f79)] (initX [.rd tSId, .g tSId] a) : Option (ResT [.v (.int .i64)]))
noncomputable def L_sidx_0 (f : Nat) (x : (List (SId)) × SId × Int × Int) : Option (Int) := (runX (C_sidx) Lt_sidx (Kret Try.prog [.tmp 4] [.v (.int .i64)]) f (headOf Try.f79 0) ((Lt_sidx 0).mk' x) : Option (ResT [.v (.int .i64)]))
theorem M_sidx_eq (f : Nat) (s : List (SId)) (v : SId) : M_sidx (f + 1) (s, v) =
    L_sidx_0 f (s, v, (↑s.length : Int), 0) := by kernel_rfl
theorem L_sidx_0_eq (f : Nat) (s : List (SId)) (v : SId) (x7 : Int) (x8 : Int) : L_sidx_0 (f + 1) (s, v, x7, x8) =
    bif decide (x8 < x7) then bif decide (0 ≤ x8) && decide (x8 < (↑s.length : Int)) then bif v.1 == (s.getD x8.toNat (0, 0, 0)).1 && (v.2.1 == (s.getD x8.toNat (0, 0, 0)).2.1 && (v.2.2 == (s.getD x8.toNat (0, 0, 0)).2.2 && true)) then some x8 else L_sidx_0 f (s, v, x7, IntKind.i64.wrap (x8 + 1)) else none else some (-1) := by kernel_rfl
noncomputable def F_sidx_0 : List (SId) → ((List (SId)) × SId × Int × Nat) → Int
  | [], (s, v, x7, x8) => -1
  | uu :: rest, (s, v, x7, x8) => bif v.1 == uu.1 && (v.2.1 == uu.2.1 && (v.2.2 == uu.2.2 && true)) then (↑x8 : Int) else F_sidx_0 rest (s, v, x7, x8 + 1)
noncomputable def P_sidx_0 : List (SId) → ((List (SId)) × SId × Int × Nat) → Bool
  | [], (s, v, x7, x8) => true
  | uu :: rest, (s, v, x7, x8) => bif v.1 == uu.1 && (v.2.1 == uu.2.1 && (v.2.2 == uu.2.2 && true)) then true else P_sidx_0 rest (s, v, x7, x8 + 1)
theorem A_sidx_0 : ∀ (rest : List (SId)) (s : List (SId)) (v : SId) (x7 : Int) (x8 : Nat) (hd : s.drop x8 = rest) (hn : x7 = ((s.length : Nat) : Int)) (hl : s.length ≤ 1099511627776), Rns (fun f => L_sidx_0 f (s, v, x7, ((x8 : Nat) : Int))) (P_sidx_0 rest (s, v, x7, x8)) (F_sidx_0 rest (s, v, x7, x8))
  | [], s, v, x7, x8, hd, hn, hl => ev_step (T := fun f => some (-1)) (fun f => (L_sidx_0_eq f _ _ _ _).trans (by simp only [ge_decn hn (drop_ge hd), ge0, Bool.and_self, Bool.true_and, cond_true, cond_false, List.length_set] <;> rfl)) ev_some
  | uu :: rest, s, v, x7, x8, hd, hn, hl => ev_step (T := fun f => bif v.1 == uu.1 && (v.2.1 == uu.2.1 && (v.2.2 == uu.2.2 && true)) then some (↑x8 : Int) else L_sidx_0 f (s, v, x7, (↑(x8 + 1) : Int))) (fun f => (L_sidx_0_eq f _ _ _ _).trans (by simp only [lt_decn hn (drop_lt hd), lt_dec (drop_lt hd), drop_get hd, wrap_succ (drop_lt hd) hl, getD_set (drop_lt hd), ge0, Bool.and_self, Bool.true_and, cond_true, cond_false, List.length_set] <;> rfl)) (ev_bif ev_some (A_sidx_0 rest _ _ _ _ (by first | exact drop_succ hd | exact drop_set hd | exact drop_setS (drop_set hd)) (by first | exact hn | simpa using hn) (by first | exact hl | simpa using hl)))
noncomputable def F_sidx : ((List (SId)) × SId) → Int
  | (s, v) => F_sidx_0 s (s, v, (↑s.length : Int), 0)
noncomputable def P_sidx : ((List (SId)) × SId) → Bool
  | (s, v) => decide (s.length ≤ 1099511627776) && P_sidx_0 s (s, v, (↑s.length : Int), 0)
theorem sidx_auto : ∀ a : (List (SId)) × SId, Rns (fun f => M_sidx f a) (P_sidx a) (F_sidx a)
  | (s, v) => ev_step (fun f => M_sidx_eq f _ _) (ev_and fun hh => A_sidx_0 _ _ _ _ _ rfl (by first | rfl | simp) (of_decide_eq_true hh))
theorem sidx_0P (v : SId) : ∀ (rest l : List SId) (n : Int) (k : Nat), P_sidx_0 rest (l, v, n, k) = true
  | [], l, n, k => rfl
  | u :: r, l, n, k => by simp only [P_sidx_0]; rw [sidx_0P v r]; simp
theorem sidx_0F (v : SId) : ∀ (rest l : List SId) (n : Int) (k : Nat), F_sidx_0 rest (l, v, n, k) = idxI rest v k
  | [], l, n, k => rfl
  | u :: r, l, n, k => by
    simp only [F_sidx_0, idxI, id_eq]; rw [sidx_0F v r]
    rw [show decide (v = u) = decide (u = v) from decide_eq_decide.2 eq_comm]; rfl
theorem sidx_P : ∀ a : List SId × SId, len40n a.1 = true → P_sidx a = true := fun a h => by simp only [P_sidx, sidx_0P, Bool.and_true]; exact h
theorem sidx_F : ∀ a : List SId × SId, len40n a.1 = true → F_sidx a = idxI a.1 a.2 0 := fun a h => by simp only [F_sidx, sidx_0F]; rfl
theorem sidx_run : ∀ a, (fun a => len40n a.1 : (List (SId)) × SId → Bool) a = true → ∃ f, M_sidx f a = some ((fun a => idxI a.1 a.2 0 : (List (SId)) × SId → Int) a) := fun a h => by have h1 := sidx_auto a (sidx_P a h); rw [sidx_F a h] at h1; exact h1
noncomputable def E_sidx : Ent := ⟨79, [.rd tSId, .g tSId], [.v (.int .i64)], fun a => (fun a => len40n a.1 : (List (SId)) × SId → Bool) a, fun a => (fun a => idxI a.1 a.2 0 : (List (SId)) × SId → Int) a⟩
theorem E_sidx_ok : E_sidx.Ok Try.prog := fun a hp vs hv => (sidx_run a hp).elim fun f h => fnX_ok (C := C_sidx) (Lt := Lt_sidx) (fn := Try.f79) (rs := [.tmp 4]) [.rd tSId, .g tSId] [.v (.int .i64)] mixed es_sidx Try.func79 rfl rfl rfl (by kernel_rfl) (by kernel_rfl) f h vs hv
noncomputable def C_iidx : Cfg := ⟨Try.prog, [], pmT [], 19, [], []⟩
theorem es_iidx : EsOk Try.prog [] [] := es_nil
def Lt_iidx : Nat → LD := ldT [(0, ⟨[.rd 0 [.int .i64], .c 1 (.int .i64), .c 7 (.int .i64), .c 8 (.int .i64)], [], 0⟩)]
noncomputable def M_iidx (f : Nat) (a : (List (Int)) × Int) : Option (Int) := (runX (C_iidx) Lt_iidx (Kret Try.prog [.tmp 4] [.v (.int .i64)]) f [.code (bodyOf Try.f75)] (initX [.rd [.int .i64], .c (.int .i64)] a) : Option (ResT [.v (.int .i64)]))
noncomputable def L_iidx_0 (f : Nat) (x : (List (Int)) × Int × Int × Int) : Option (Int) := (runX (C_iidx) Lt_iidx (Kret Try.prog [.tmp 4] [.v (.int .i64)]) f (headOf Try.f75 0) ((Lt_iidx 0).mk' x) : Option (ResT [.v (.int .i64)]))
theorem M_iidx_eq (f : Nat) (s : List (Int)) (v : Int) : M_iidx (f + 1) (s, v) =
    L_iidx_0 f (s, v, (↑s.length : Int), 0) := by kernel_rfl
theorem L_iidx_0_eq (f : Nat) (s : List (Int)) (v : Int) (x7 : Int) (x8 : Int) : L_iidx_0 (f + 1) (s, v, x7, x8) =
    bif decide (x8 < x7) then bif decide (0 ≤ x8) && decide (x8 < (↑s.length : Int)) then bif v == s.getD x8.toNat 0 then some x8 else L_iidx_0 f (s, v, x7, IntKind.i64.wrap (x8 + 1)) else none else some (-1) := by kernel_rfl
noncomputable def F_iidx_0 : List (Int) → ((List (Int)) × Int × Int × Nat) → Int
  | [], (s, v, x7, x8) => -1
  | uu :: rest, (s, v, x7, x8) => bif v == uu then (↑x8 : Int) else F_iidx_0 rest (s, v, x7, x8 + 1)
noncomputable def P_iidx_0 : List (Int) → ((List (Int)) × Int × Int × Nat) → Bool
  | [], (s, v, x7, x8) => true
  | uu :: rest, (s, v, x7, x8) => bif v == uu then true else P_iidx_0 rest (s, v, x7, x8 + 1)
theorem A_iidx_0 : ∀ (rest : List (Int)) (s : List (Int)) (v : Int) (x7 : Int) (x8 : Nat) (hd : s.drop x8 = rest) (hn : x7 = ((s.length : Nat) : Int)) (hl : s.length ≤ 1099511627776), Rns (fun f => L_iidx_0 f (s, v, x7, ((x8 : Nat) : Int))) (P_iidx_0 rest (s, v, x7, x8)) (F_iidx_0 rest (s, v, x7, x8))
  | [], s, v, x7, x8, hd, hn, hl => ev_step (T := fun f => some (-1)) (fun f => (L_iidx_0_eq f _ _ _ _).trans (by simp only [ge_decn hn (drop_ge hd), ge0, Bool.and_self, Bool.true_and, cond_true, cond_false, List.length_set] <;> rfl)) ev_some
  | uu :: rest, s, v, x7, x8, hd, hn, hl => ev_step (T := fun f => bif v == uu then some (↑x8 : Int) else L_iidx_0 f (s, v, x7, (↑(x8 + 1) : Int))) (fun f => (L_iidx_0_eq f _ _ _ _).trans (by simp only [lt_decn hn (drop_lt hd), lt_dec (drop_lt hd), drop_get hd, wrap_succ (drop_lt hd) hl, getD_set (drop_lt hd), ge0, Bool.and_self, Bool.true_and, cond_true, cond_false, List.length_set] <;> rfl)) (ev_bif ev_some (A_iidx_0 rest _ _ _ _ (by first | exact drop_succ hd | exact drop_set hd | exact drop_setS (drop_set hd)) (by first | exact hn | simpa using hn) (by first | exact hl | simpa using hl)))
noncomputable def F_iidx : ((List (Int)) × Int) → Int
  | (s, v) => F_iidx_0 s (s, v, (↑s.length : Int), 0)
noncomputable def P_iidx : ((List (Int)) × Int) → Bool
  | (s, v) => decide (s.length ≤ 1099511627776) && P_iidx_0 s (s, v, (↑s.length : Int), 0)
theorem iidx_auto : ∀ a : (List (Int)) × Int, Rns (fun f => M_iidx f a) (P_iidx a) (F_iidx a)
  | (s, v) => ev_step (fun f => M_iidx_eq f _ _) (ev_and fun hh => A_iidx_0 _ _ _ _ _ rfl (by first | rfl | simp) (of_decide_eq_true hh))
theorem iidx_0P (v : Int) : ∀ (rest l : List Int) (n : Int) (k : Nat), P_iidx_0 rest (l, v, n, k) = true
  | [], l, n, k => rfl
  | u :: r, l, n, k => by simp only [P_iidx_0]; rw [iidx_0P v r]; cases (v == u) <;> rfl
theorem iidx_0F (v : Int) : ∀ (rest l : List Int) (n : Int) (k : Nat), F_iidx_0 rest (l, v, n, k) = idxI rest v k
  | [], l, n, k => rfl
  | u :: r, l, n, k => by
    simp only [F_iidx_0, idxI]; rw [iidx_0F v r]
    rw [beq_dec]; rfl
theorem iidx_P : ∀ a : List Int × Int, len40n a.1 = true → P_iidx a = true := fun a h => by simp only [P_iidx, iidx_0P, Bool.and_true]; exact h
theorem iidx_F : ∀ a : List Int × Int, len40n a.1 = true → F_iidx a = idxI a.1 a.2 0 := fun a h => by simp only [F_iidx, iidx_0F]; rfl
theorem iidx_run : ∀ a, (fun a => len40n a.1 : (List (Int)) × Int → Bool) a = true → ∃ f, M_iidx f a = some ((fun a => idxI a.1 a.2 0 : (List (Int)) × Int → Int) a) := fun a h => by have h1 := iidx_auto a (iidx_P a h); rw [iidx_F a h] at h1; exact h1
noncomputable def E_iidx : Ent := ⟨75, [.rd [.int .i64], .c (.int .i64)], [.v (.int .i64)], fun a => (fun a => len40n a.1 : (List (Int)) × Int → Bool) a, fun a => (fun a => idxI a.1 a.2 0 : (List (Int)) × Int → Int) a⟩
theorem E_iidx_ok : E_iidx.Ok Try.prog := fun a hp vs hv => (iidx_run a hp).elim fun f h => fnX_ok (C := C_iidx) (Lt := Lt_iidx) (fn := Try.f75) (rs := [.tmp 4]) [.rd [.int .i64], .c (.int .i64)] [.v (.int .i64)] mixed es_iidx Try.func75 rfl rfl rfl (by kernel_rfl) (by kernel_rfl) f h vs hv
noncomputable def C_scon : Cfg := ⟨Try.prog, [E_sidx], pmT [], 9, [], []⟩
theorem es_scon : EsOk Try.prog [E_sidx] [] := es_cons E_sidx_ok (es_nil)
def Lt_scon : Nat → LD := ldT []
noncomputable def M_scon (f : Nat) (a : (List (SId)) × SId) : Option (Bool) := (runX (C_scon) Lt_scon (Kret Try.prog [.tmp 4] [.v (.bool)]) f [.code (bodyOf Try.f62)] (initX [.rd tSId, .g tSId] a) : Option (ResT [.v (.bool)]))
theorem M_scon_eq (f : Nat) (s : List (SId)) (v : SId) : M_scon (f + 1) (s, v) =
    bif len40n s then some (decide (idxI s v 0 ≥ 0)) else none := by kernel_rfl
noncomputable def F_scon : ((List (SId)) × SId) → Bool
  | (s, v) => decide (idxI s v 0 ≥ 0)
noncomputable def P_scon : ((List (SId)) × SId) → Bool
  | (s, v) => len40n s
theorem scon_auto : ∀ a : (List (SId)) × SId, Rns (fun f => M_scon f a) (P_scon a) (F_scon a)
  | (s, v) => ev_step (fun f => M_scon_eq f _ _) (ev_chk1 ev_some)
theorem scon_P : ∀ a : List SId × SId, len40n a.1 = true → P_scon a = true := fun a h => h
theorem scon_F : ∀ a : List SId × SId, len40n a.1 = true → F_scon a = memD a.2 a.1 := fun a h => idxI_ge a.2 a.1 0 (by omega)
theorem scon_run : ∀ a, (fun a => len40n a.1 : (List (SId)) × SId → Bool) a = true → ∃ f, M_scon f a = some ((fun a => memD a.2 a.1 : (List (SId)) × SId → Bool) a) := fun a h => by have h1 := scon_auto a (scon_P a h); rw [scon_F a h] at h1; exact h1
noncomputable def E_scon : Ent := ⟨62, [.rd tSId, .g tSId], [.v (.bool)], fun a => (fun a => len40n a.1 : (List (SId)) × SId → Bool) a, fun a => (fun a => memD a.2 a.1 : (List (SId)) × SId → Bool) a⟩
theorem E_scon_ok : E_scon.Ok Try.prog := fun a hp vs hv => (scon_run a hp).elim fun f h => fnX_ok (C := C_scon) (Lt := Lt_scon) (fn := Try.f62) (rs := [.tmp 4]) [.rd tSId, .g tSId] [.v (.bool)] mixed es_scon Try.func62 rfl rfl rfl (by kernel_rfl) (by kernel_rfl) f h vs hv
noncomputable def C_icon : Cfg := ⟨Try.prog, [E_iidx], pmT [], 9, [], []⟩
theorem es_icon : EsOk Try.prog [E_iidx] [] := es_cons E_iidx_ok (es_nil)
def Lt_icon : Nat → LD := ldT []
noncomputable def M_icon (f : Nat) (a : (List (Int)) × Int) : Option (Bool) := (runX (C_icon) Lt_icon (Kret Try.prog [.tmp 4] [.v (.bool)]) f [.code (bodyOf Try.f57)] (initX [.rd [.int .i64], .c (.int .i64)] a) : Option (ResT [.v (.bool)]))
theorem M_icon_eq (f : Nat) (s : List (Int)) (v : Int) : M_icon (f + 1) (s, v) =
    bif len40n s then some (decide (idxI s v 0 ≥ 0)) else none := by kernel_rfl
noncomputable def F_icon : ((List (Int)) × Int) → Bool
  | (s, v) => decide (idxI s v 0 ≥ 0)
noncomputable def P_icon : ((List (Int)) × Int) → Bool
  | (s, v) => len40n s
theorem icon_auto : ∀ a : (List (Int)) × Int, Rns (fun f => M_icon f a) (P_icon a) (F_icon a)
  | (s, v) => ev_step (fun f => M_icon_eq f _ _) (ev_chk1 ev_some)
theorem icon_P : ∀ a : List Int × Int, len40n a.1 = true → P_icon a = true := fun a h => h
theorem icon_F : ∀ a : List Int × Int, len40n a.1 = true → F_icon a = memD a.2 a.1 := fun a h => idxI_ge a.2 a.1 0 (by omega)
theorem icon_run : ∀ a, (fun a => len40n a.1 : (List (Int)) × Int → Bool) a = true → ∃ f, M_icon f a = some ((fun a => memD a.2 a.1 : (List (Int)) × Int → Bool) a) := fun a h => by have h1 := icon_auto a (icon_P a h); rw [icon_F a h] at h1; exact h1
noncomputable def E_icon : Ent := ⟨57, [.rd [.int .i64], .c (.int .i64)], [.v (.bool)], fun a => (fun a => len40n a.1 : (List (Int)) × Int → Bool) a, fun a => (fun a => memD a.2 a.1 : (List (Int)) × Int → Bool) a⟩
theorem E_icon_ok : E_icon.Ok Try.prog := fun a hp vs hv => (icon_run a hp).elim fun f h => fnX_ok (C := C_icon) (Lt := Lt_icon) (fn := Try.f57) (rs := [.tmp 4]) [.rd [.int .i64], .c (.int .i64)] [.v (.bool)] mixed es_icon Try.func57 rfl rfl rfl (by kernel_rfl) (by kernel_rfl) f h vs hv
noncomputable def C_icl : Cfg := ⟨Try.prog, [], pmT [], 8, [], []⟩
theorem es_icl : EsOk Try.prog [] := es_nil
theorem X_icl (l : List (SId)) : (runX C_icl (fun _ => ⟨[], [], 0⟩) (Kret Try.prog [.tmp 2] [.o 26 3 tSId]) 1 [.code (bodyOf Try.f78)] (initX [.rd tSId] l) : Option (ResT [.o 26 3 tSId])) = bif Decidable.decide (0 < l.length) && Bool.true then bif Decidable.decide ((([] : List Nat).length + l.length) * (bytesOf Try.prog 26) ≤ 140737488355328) then some l else none else none := by kernel_rfl
noncomputable def E_icl : Ent := ⟨78, [.rd tSId], [.o 26 3 tSId], fun a => len40n (a : List (SId)), fun a => (a : List (SId))⟩
theorem E_icl_ok : E_icl.Ok Try.prog := fun a hp vs hv => clone_ok (τ := tSId) (t := 26) (es := 3)
    (fun a h0 h1 vs hv => fnX_ok (C := C_icl) (Lt := fun _ => ⟨[], [], 0⟩) (fn := Try.f78) (rs := [.tmp 2]) [.rd tSId] [.o 26 3 tSId] mixed es_icl Try.func78 rfl rfl rfl (by kernel_rfl) (by kernel_rfl) 1 ((X_icl a).trans (clone_len h0 h1 (by decide +kernel))) vs hv)
    (fnX_ok (C := C_icl) (Lt := fun _ => ⟨[], [], 0⟩) (fn := Try.f78) (rs := [.tmp 2]) (a := ()) [.raw (.slice none 0 0)] [.o 26 3 tSId] mixed es_icl Try.func78 rfl rfl rfl (by kernel_rfl) (by kernel_rfl) 1 (by kernel_rfl) _ (by simp only [ArgsV, ArgsV1, ArgV]; exact ⟨_, rfl, rfl⟩))
    (fun b c => fnX_ok (C := C_icl) (Lt := fun _ => ⟨[], [], 0⟩) (fn := Try.f78) (rs := [.tmp 2]) (a := ()) [.raw (.slice (some b) 0 c)] [.o 26 3 tSId] mixed es_icl Try.func78 rfl rfl rfl (by kernel_rfl) (by kernel_rfl) 1 (by kernel_rfl) _ (by simp only [ArgsV, ArgsV1, ArgV]; exact ⟨_, rfl, rfl⟩))
    a (of_decide_eq_true hp) vs hv
noncomputable def C_hasId : Cfg := ⟨Try.prog, [], pmT [(4, ([(0, []), (1, []), (2, []), (3, []), (4, []), (5, [])], [(12, 17)]))], 18, [], []⟩
theorem es_hasId : EsOk Try.prog [] [] := es_nil
def Lt_hasId : Nat → LD := ldT [(0, ⟨[.rd 0 tSId, .box 3 3 26 3 tSId, .c 5 (.int .i64)], [], 0⟩)]
noncomputable def M_hasId (f : Nat) (a : (List (SId)) × SId) : Option (Bool) := (runX (C_hasId) Lt_hasId (Kret Try.prog [.tmp 4] [.v (.bool)]) f [.code (bodyOf Try.f46)] (initX [.rd tSId, .g tSId] a) : Option (ResT [.v (.bool)]))
noncomputable def L_hasId_0 (f : Nat) (x : (List (SId)) × SId × Int) : Option (Bool) := (runX (C_hasId) Lt_hasId (Kret Try.prog [.tmp 4] [.v (.bool)]) f (headOf Try.f46 0) ((Lt_hasId 0).mk' x) : Option (ResT [.v (.bool)]))
theorem M_hasId_eq (f : Nat) (l : List (SId)) (id : SId) : M_hasId (f + 1) (l, id) =
    L_hasId_0 f (l, id, 0) := by kernel_rfl
theorem L_hasId_0_eq (f : Nat) (l : List (SId)) (id : SId) (i : Int) : L_hasId_0 (f + 1) (l, id, i) =
    bif decide (i < (↑l.length : Int)) then bif decide (0 ≤ i) && decide (i < (↑l.length : Int)) then bif (l.getD i.toNat (0, 0, 0)).1 == id.1 && ((l.getD i.toNat (0, 0, 0)).2.1 == id.2.1 && ((l.getD i.toNat (0, 0, 0)).2.2 == id.2.2 && true)) then some true else L_hasId_0 f (l, id, IntKind.i64.wrap (i + 1)) else none else some false := by kernel_rfl
noncomputable def F_hasId_0 : List (SId) → ((List (SId)) × SId × Nat) → Bool
  | [], (l, id, i) => false
  | uu :: rest, (l, id, i) => bif uu.1 == id.1 && (uu.2.1 == id.2.1 && (uu.2.2 == id.2.2 && true)) then true else F_hasId_0 rest (l, id, i + 1)
noncomputable def P_hasId_0 : List (SId) → ((List (SId)) × SId × Nat) → Bool
  | [], (l, id, i) => true
  | uu :: rest, (l, id, i) => bif uu.1 == id.1 && (uu.2.1 == id.2.1 && (uu.2.2 == id.2.2 && true)) then true else P_hasId_0 rest (l, id, i + 1)
theorem A_hasId_0 : ∀ (rest : List (SId)) (l : List (SId)) (id : SId) (i : Nat) (hd : l.drop i = rest) (hl : l.length ≤ 1099511627776), Rns (fun f => L_hasId_0 f (l, id, ((i : Nat) : Int))) (P_hasId_0 rest (l, id, i)) (F_hasId_0 rest (l, id, i))
  | [], l, id, i, hd, hl => ev_step (T := fun f => some false) (fun f => (L_hasId_0_eq f _ _ _).trans (by simp only [ge_dec (drop_ge hd), ge0, Bool.and_self, Bool.true_and, cond_true, cond_false, List.length_set] <;> rfl)) ev_some
  | uu :: rest, l, id, i, hd, hl => ev_step (T := fun f => bif uu.1 == id.1 && (uu.2.1 == id.2.1 && (uu.2.2 == id.2.2 && true)) then some true else L_hasId_0 f (l, id, (↑(i + 1) : Int))) (fun f => (L_hasId_0_eq f _ _ _).trans (by simp only [lt_dec (drop_lt hd), drop_get hd, wrap_succ (drop_lt hd) hl, getD_set (drop_lt hd), ge0, Bool.and_self, Bool.true_and, cond_true, cond_false, List.length_set] <;> rfl)) (ev_bif ev_some (A_hasId_0 rest _ _ _ (by first | exact drop_succ hd | exact drop_set hd | exact drop_setS (drop_set hd)) (by first | exact hl | simpa using hl)))
noncomputable def F_hasId : ((List (SId)) × SId) → Bool
  | (l, id) => F_hasId_0 l (l, id, 0)
noncomputable def P_hasId : ((List (SId)) × SId) → Bool
  | (l, id) => decide (l.length ≤ 1099511627776) && P_hasId_0 l (l, id, 0)
theorem hasId_auto : ∀ a : (List (SId)) × SId, Rns (fun f => M_hasId f a) (P_hasId a) (F_hasId a)
  | (l, id) => ev_step (fun f => M_hasId_eq f _ _) (ev_and fun hh => A_hasId_0 _ _ _ _ rfl (of_decide_eq_true hh))
theorem hasId_0P (v : SId) : ∀ (rest l : List SId) (k : Nat), P_hasId_0 rest (l, v, k) = true
  | [], l, k => rfl
  | u :: r, l, k => by simp only [P_hasId_0]; rw [hasId_0P v r]; simp
theorem hasId_0F (v : SId) : ∀ (rest l : List SId) (k : Nat), F_hasId_0 rest (l, v, k) = memD v rest
  | [], l, k => rfl
  | u :: r, l, k => by
    simp only [F_hasId_0, id_eq]; rw [hasId_0F v r, memD_cons]
    cases decide (u = v) <;> rfl
theorem hasId_P : ∀ a : List SId × SId, len40n a.1 = true → P_hasId a = true := fun a h => by simp only [P_hasId, hasId_0P, Bool.and_true]; exact h
theorem hasId_F : ∀ a : List SId × SId, len40n a.1 = true → F_hasId a = memD a.2 a.1 := fun a h => by simp only [F_hasId, hasId_0F]
theorem hasId_run : ∀ a, (fun a => len40n a.1 : (List (SId)) × SId → Bool) a = true → ∃ f, M_hasId f a = some ((fun a => memD a.2 a.1 : (List (SId)) × SId → Bool) a) := fun a h => by have h1 := hasId_auto a (hasId_P a h); rw [hasId_F a h] at h1; exact h1
noncomputable def E_hasId : Ent := ⟨46, [.rd tSId, .g tSId], [.v (.bool)], fun a => (fun a => len40n a.1 : (List (SId)) × SId → Bool) a, fun a => (fun a => memD a.2 a.1 : (List (SId)) × SId → Bool) a⟩
theorem E_hasId_ok : E_hasId.Ok Try.prog := fun a hp vs hv => (hasId_run a hp).elim fun f h => fnX_ok (C := C_hasId) (Lt := Lt_hasId) (fn := Try.f46) (rs := [.tmp 4]) [.rd tSId, .g tSId] [.v (.bool)] mixed es_hasId Try.func46 rfl rfl rfl (by kernel_rfl) (by kernel_rfl) f h vs hv
noncomputable def C_cids : Cfg := ⟨Try.prog, [], pmT [], 5, [], []⟩
theorem es_cids : EsOk Try.prog [] [] := es_nil
def Lt_cids : Nat → LD := ldT []
noncomputable def M_cids (f : Nat) (a : (List (SId))) : Option ((List (SId))) := (runX (C_cids) Lt_cids (Kret Try.prog [.tmp 2] [.o 26 3 tSId]) f [.code (bodyOf Try.f40)] (initX [.rd tSId] a) : Option (ResT [.o 26 3 tSId]))
theorem M_cids_eq (f : Nat) (l : List (SId)) : M_cids (f + 1) l =
    bif decide (l.length * 24 ≤ 140737488355328) then some l else none := by kernel_rfl
noncomputable def F_cids : (List (SId)) → (List (SId))
  | l => l
noncomputable def P_cids : (List (SId)) → Bool
  | l => decide (l.length * 24 ≤ 140737488355328)
theorem cids_auto : ∀ a : (List (SId)), Rns (fun f => M_cids f a) (P_cids a) (F_cids a)
  | l => ev_step (fun f => M_cids_eq f _) (ev_chk1 ev_some)
theorem cids_P : ∀ a : List SId, len40n a = true → P_cids a = true := fun a h => by
  have h : a.length ≤ 1099511627776 := of_decide_eq_true h
  exact decide_eq_true (by omega)
theorem cids_F : ∀ a : List SId, len40n a = true → F_cids a = a := fun a h => rfl
theorem cids_run : ∀ a, (fun a => len40n a : (List (SId)) → Bool) a = true → ∃ f, M_cids f a = some ((fun a => a : (List (SId)) → (List (SId))) a) := fun a h => by have h1 := cids_auto a (cids_P a h); rw [cids_F a h] at h1; exact h1
noncomputable def E_cids : Ent := ⟨40, [.rd tSId], [.o 26 3 tSId], fun a => (fun a => len40n a : (List (SId)) → Bool) a, fun a => (fun a => a : (List (SId)) → (List (SId))) a⟩
theorem E_cids_ok : E_cids.Ok Try.prog := fun a hp vs hv => (cids_run a hp).elim fun f h => fnX_ok (C := C_cids) (Lt := Lt_cids) (fn := Try.f40) (rs := [.tmp 2]) [.rd tSId] [.o 26 3 tSId] mixed es_cids Try.func40 rfl rfl rfl (by kernel_rfl) (by kernel_rfl) f h vs hv
theorem same_loop {α : Type} [DecidableEq α] (F P : List α → List α × List α × Nat → Bool)
    (h0 : ∀ a b k, F [] (a, b, k) = true ∧ P [] (a, b, k) = true)
    (h1 : ∀ u r a b k v t, b.drop k = v :: t → F (u :: r) (a, b, k) = (bif !decide (u = v) then false else F r (a, b, k + 1)) ∧ (P r (a, b, k + 1) = true → P (u :: r) (a, b, k) = true)) :
    ∀ (r a b t : List α) (k : Nat), b.drop k = t → r.length = t.length → F r (a, b, k) = decide (r = t) ∧ P r (a, b, k) = true
  | [], a, b, [], k, h, e => by simp [h0]
  | [], a, b, v :: t, k, h, e => by simp at e
  | u :: r, a, b, [], k, h, e => by simp at e
  | u :: r, a, b, v :: t, k, h, e => by
    obtain ⟨i1, i2⟩ := same_loop F P h0 h1 r a b t (k + 1) (drop_succ h) (by simpa using e)
    obtain ⟨j1, j2⟩ := h1 u r a b k v t h
    refine ⟨?_, j2 i2⟩
    rw [j1, i1]
    by_cases h : u = v
    · simp [h]
    · simp [h]
noncomputable def C_sids : Cfg := ⟨Try.prog, [], pmT [(6, ([(0, []), (1, []), (2, []), (3, []), (4, []), (5, []), (6, []), (7, []), (8, [])], [(17, 25)]))], 26, [], []⟩
theorem es_sids : EsOk Try.prog [] [] := es_nil
def Lt_sids : Nat → LD := ldT [(0, ⟨[.rd 0 tSId, .rd 1 tSId, .c 5 (.int .i64)], [], 0⟩)]
noncomputable def M_sids (f : Nat) (a : (List (SId)) × (List (SId))) : Option (Bool) := (runX (C_sids) Lt_sids (Kret Try.prog [.tmp 4] [.v (.bool)]) f [.code (bodyOf Try.f44)] (initX [.rd tSId, .rd tSId] a) : Option (ResT [.v (.bool)]))
noncomputable def L_sids_0 (f : Nat) (x : (List (SId)) × (List (SId)) × Int) : Option (Bool) := (runX (C_sids) Lt_sids (Kret Try.prog [.tmp 4] [.v (.bool)]) f (headOf Try.f44 0) ((Lt_sids 0).mk' x) : Option (ResT [.v (.bool)]))
theorem M_sids_eq (f : Nat) (a : List (SId)) (b : List (SId)) : M_sids (f + 1) (a, b) =
    bif (↑a.length : Int) != (↑b.length : Int) then some false else L_sids_0 f (a, b, 0) := by kernel_rfl
theorem L_sids_0_eq (f : Nat) (a : List (SId)) (b : List (SId)) (i : Int) : L_sids_0 (f + 1) (a, b, i) =
    bif decide (i < (↑a.length : Int)) then bif decide (0 ≤ i) && decide (i < (↑a.length : Int)) then bif decide (0 ≤ i) && decide (i < (↑b.length : Int)) then bif !((a.getD i.toNat (0, 0, 0)).1 == (b.getD i.toNat (0, 0, 0)).1 && ((a.getD i.toNat (0, 0, 0)).2.1 == (b.getD i.toNat (0, 0, 0)).2.1 && ((a.getD i.toNat (0, 0, 0)).2.2 == (b.getD i.toNat (0, 0, 0)).2.2 && true))) then some false else L_sids_0 f (a, b, IntKind.i64.wrap (i + 1)) else none else none else some true := by kernel_rfl
noncomputable def F_sids_0 : List (SId) → ((List (SId)) × (List (SId)) × Nat) → Bool
  | [], (a, b, i) => true
  | uu :: rest, (a, b, i) => bif !(uu.1 == (b.getD (↑i : Int).toNat (0, 0, 0)).1 && (uu.2.1 == (b.getD (↑i : Int).toNat (0, 0, 0)).2.1 && (uu.2.2 == (b.getD (↑i : Int).toNat (0, 0, 0)).2.2 && true))) then false else F_sids_0 rest (a, b, i + 1)
noncomputable def P_sids_0 : List (SId) → ((List (SId)) × (List (SId)) × Nat) → Bool
  | [], (a, b, i) => true
  | uu :: rest, (a, b, i) => decide ((↑i : Int) < (↑b.length : Int)) && bif !(uu.1 == (b.getD (↑i : Int).toNat (0, 0, 0)).1 && (uu.2.1 == (b.getD (↑i : Int).toNat (0, 0, 0)).2.1 && (uu.2.2 == (b.getD (↑i : Int).toNat (0, 0, 0)).2.2 && true))) then true else P_sids_0 rest (a, b, i + 1)
theorem A_sids_0 : ∀ (rest : List (SId)) (a : List (SId)) (b : List (SId)) (i : Nat) (hd : a.drop i = rest) (hl : a.length ≤ 1099511627776), Rns (fun f => L_sids_0 f (a, b, ((i : Nat) : Int))) (P_sids_0 rest (a, b, i)) (F_sids_0 rest (a, b, i))
  | [], a, b, i, hd, hl => ev_step (T := fun f => some true) (fun f => (L_sids_0_eq f _ _ _).trans (by simp only [ge_dec (drop_ge hd), ge0, Bool.and_self, Bool.true_and, cond_true, cond_false, List.length_set] <;> rfl)) ev_some
  | uu :: rest, a, b, i, hd, hl => ev_step (T := fun f => bif decide ((↑i : Int) < (↑b.length : Int)) then bif !(uu.1 == (b.getD (↑i : Int).toNat (0, 0, 0)).1 && (uu.2.1 == (b.getD (↑i : Int).toNat (0, 0, 0)).2.1 && (uu.2.2 == (b.getD (↑i : Int).toNat (0, 0, 0)).2.2 && true))) then some false else L_sids_0 f (a, b, (↑(i + 1) : Int)) else none) (fun f => (L_sids_0_eq f _ _ _).trans (by simp only [lt_dec (drop_lt hd), drop_get hd, wrap_succ (drop_lt hd) hl, getD_set (drop_lt hd), ge0, Bool.and_self, Bool.true_and, cond_true, cond_false, List.length_set] <;> rfl)) (ev_chk (ev_bif ev_some (A_sids_0 rest _ _ _ (by first | exact drop_succ hd | exact drop_set hd | exact drop_setS (drop_set hd)) (by first | exact hl | simpa using hl))))
noncomputable def F_sids : ((List (SId)) × (List (SId))) → Bool
  | (a, b) => bif (↑a.length : Int) != (↑b.length : Int) then false else F_sids_0 a (a, b, 0)
noncomputable def P_sids : ((List (SId)) × (List (SId))) → Bool
  | (a, b) => bif (↑a.length : Int) != (↑b.length : Int) then true else decide (a.length ≤ 1099511627776) && P_sids_0 a (a, b, 0)
theorem sids_auto : ∀ a : (List (SId)) × (List (SId)), Rns (fun f => M_sids f a) (P_sids a) (F_sids a)
  | (a, b) => ev_step (fun f => M_sids_eq f _ _) (ev_bif ev_some (ev_and fun hh => A_sids_0 _ _ _ _ rfl (of_decide_eq_true hh)))
theorem sids_0 : ∀ (r a b t : List SId) (k : Nat), b.drop k = t → r.length = t.length → F_sids_0 r (a, b, k) = decide (r = t) ∧ P_sids_0 r (a, b, k) = true := by
  refine same_loop F_sids_0 P_sids_0 (fun _ _ _ => ⟨rfl, rfl⟩) fun u r a b k v t h => ?_
  simp only [F_sids_0, P_sids_0, drop_get h, lt_dec (drop_lt h), id_eq, Bool.true_and]
  exact ⟨by trivial, fun h => by rw [h]; simp⟩
theorem len_bne {α β : Type} (a : List α) (b : List β) : (((a.length : Nat) : Int) != ((b.length : Nat) : Int)) = !decide (a.length = b.length) := by
  by_cases h : a.length = b.length
  · simp [h]
  · rw [decide_eq_false h]; simp; omega
theorem sids_P : ∀ a : List SId × List SId, len40n a.1 = true → P_sids a = true := fun a h => by
  simp only [P_sids, len_bne]
  by_cases e : a.1.length = a.2.length
  · rw [(sids_0 a.1 a.1 a.2 a.2 0 rfl e).2]; simp [e]; rw [← e]; exact of_decide_eq_true h
  · simp [e]
theorem sids_F : ∀ a : List SId × List SId, len40n a.1 = true → F_sids a = decide (a.1 = a.2) := fun a h => by
  simp only [F_sids, len_bne]
  by_cases e : a.1.length = a.2.length
  · rw [(sids_0 a.1 a.1 a.2 a.2 0 rfl e).1]; simp [e]
  · have : ¬ a.1 = a.2 := fun h => e (by rw [h])
    simp [e, this]
theorem sids_run : ∀ a, (fun a => len40n a.1 : (List (SId)) × (List (SId)) → Bool) a = true → ∃ f, M_sids f a = some ((fun a => decide (a.1 = a.2) : (List (SId)) × (List (SId)) → Bool) a) := fun a h => by have h1 := sids_auto a (sids_P a h); rw [sids_F a h] at h1; exact h1
noncomputable def E_sids : Ent := ⟨44, [.rd tSId, .rd tSId], [.v (.bool)], fun a => (fun a => len40n a.1 : (List (SId)) × (List (SId)) → Bool) a, fun a => (fun a => decide (a.1 = a.2) : (List (SId)) × (List (SId)) → Bool) a⟩
theorem E_sids_ok : E_sids.Ok Try.prog := fun a hp vs hv => (sids_run a hp).elim fun f h => fnX_ok (C := C_sids) (Lt := Lt_sids) (fn := Try.f44) (rs := [.tmp 4]) [.rd tSId, .rd tSId] [.v (.bool)] mixed es_sids Try.func44 rfl rfl rfl (by kernel_rfl) (by kernel_rfl) f h vs hv
noncomputable def C_seq : Cfg := ⟨Try.prog, [], pmT [(6, ([(0, []), (1, []), (2, []), (3, []), (4, []), (5, []), (6, []), (7, []), (8, [])], [(16, 24)]))], 26, [], []⟩
theorem es_seq : EsOk Try.prog [] [] := es_nil
def Lt_seq : Nat → LD := ldT [(0, ⟨[.rd 0 tSId, .rd 1 tSId, .c 12 (.int .i64), .c 13 (.int .i64)], [], 0⟩)]
noncomputable def M_seq (f : Nat) (a : (List (SId)) × (List (SId))) : Option (Bool) := (runX (C_seq) Lt_seq (Kret Try.prog [.tmp 4] [.v (.bool)]) f [.code (bodyOf Try.f93)] (initX [.rd tSId, .rd tSId] a) : Option (ResT [.v (.bool)]))
noncomputable def L_seq_0 (f : Nat) (x : (List (SId)) × (List (SId)) × Int × Int) : Option (Bool) := (runX (C_seq) Lt_seq (Kret Try.prog [.tmp 4] [.v (.bool)]) f (headOf Try.f93 0) ((Lt_seq 0).mk' x) : Option (ResT [.v (.bool)]))
theorem M_seq_eq (f : Nat) (s1 : List (SId)) (s2 : List (SId)) : M_seq (f + 1) (s1, s2) =
    bif (↑s1.length : Int) != (↑s2.length : Int) then some false else L_seq_0 f (s1, s2, (↑s1.length : Int), 0) := by kernel_rfl
theorem L_seq_0_eq (f : Nat) (s1 : List (SId)) (s2 : List (SId)) (x12 : Int) (x13 : Int) : L_seq_0 (f + 1) (s1, s2, x12, x13) =
    bif decide (x13 < x12) then bif decide (0 ≤ x13) && decide (x13 < (↑s1.length : Int)) then bif decide (0 ≤ x13) && decide (x13 < (↑s2.length : Int)) then bif !((s1.getD x13.toNat (0, 0, 0)).1 == (s2.getD x13.toNat (0, 0, 0)).1 && ((s1.getD x13.toNat (0, 0, 0)).2.1 == (s2.getD x13.toNat (0, 0, 0)).2.1 && ((s1.getD x13.toNat (0, 0, 0)).2.2 == (s2.getD x13.toNat (0, 0, 0)).2.2 && true))) then some false else L_seq_0 f (s1, s2, x12, IntKind.i64.wrap (x13 + 1)) else none else none else some true := by kernel_rfl
noncomputable def F_seq_0 : List (SId) → ((List (SId)) × (List (SId)) × Int × Nat) → Bool
  | [], (s1, s2, x12, x13) => true
  | uu :: rest, (s1, s2, x12, x13) => bif !(uu.1 == (s2.getD (↑x13 : Int).toNat (0, 0, 0)).1 && (uu.2.1 == (s2.getD (↑x13 : Int).toNat (0, 0, 0)).2.1 && (uu.2.2 == (s2.getD (↑x13 : Int).toNat (0, 0, 0)).2.2 && true))) then false else F_seq_0 rest (s1, s2, x12, x13 + 1)
noncomputable def P_seq_0 : List (SId) → ((List (SId)) × (List (SId)) × Int × Nat) → Bool
  | [], (s1, s2, x12, x13) => true
  | uu :: rest, (s1, s2, x12, x13) => decide ((↑x13 : Int) < (↑s2.length : Int)) && bif !(uu.1 == (s2.getD (↑x13 : Int).toNat (0, 0, 0)).1 && (uu.2.1 == (s2.getD (↑x13 : Int).toNat (0, 0, 0)).2.1 && (uu.2.2 == (s2.getD (↑x13 : Int).toNat (0, 0, 0)).2.2 && true))) then true else P_seq_0 rest (s1, s2, x12, x13 + 1)
theorem A_seq_0 : ∀ (rest : List (SId)) (s1 : List (SId)) (s2 : List (SId)) (x12 : Int) (x13 : Nat) (hd : s1.drop x13 = rest) (hn : x12 = ((s1.length : Nat) : Int)) (hl : s1.length ≤ 1099511627776), Rns (fun f => L_seq_0 f (s1, s2, x12, ((x13 : Nat) : Int))) (P_seq_0 rest (s1, s2, x12, x13)) (F_seq_0 rest (s1, s2, x12, x13))
  | [], s1, s2, x12, x13, hd, hn, hl => ev_step (T := fun f => some true) (fun f => (L_seq_0_eq f _ _ _ _).trans (by simp only [ge_decn hn (drop_ge hd), ge0, Bool.and_self, Bool.true_and, cond_true, cond_false, List.length_set] <;> rfl)) ev_some
  | uu :: rest, s1, s2, x12, x13, hd, hn, hl => ev_step (T := fun f => bif decide ((↑x13 : Int) < (↑s2.length : Int)) then bif !(uu.1 == (s2.getD (↑x13 : Int).toNat (0, 0, 0)).1 && (uu.2.1 == (s2.getD (↑x13 : Int).toNat (0, 0, 0)).2.1 && (uu.2.2 == (s2.getD (↑x13 : Int).toNat (0, 0, 0)).2.2 && true))) then some false else L_seq_0 f (s1, s2, x12, (↑(x13 + 1) : Int)) else none) (fun f => (L_seq_0_eq f _ _ _ _).trans (by simp only [lt_decn hn (drop_lt hd), lt_dec (drop_lt hd), drop_get hd, wrap_succ (drop_lt hd) hl, getD_set (drop_lt hd), ge0, Bool.and_self, Bool.true_and, cond_true, cond_false, List.length_set] <;> rfl)) (ev_chk (ev_bif ev_some (A_seq_0 rest _ _ _ _ (by first | exact drop_succ hd | exact drop_set hd | exact drop_setS (drop_set hd)) (by first | exact hn | simpa using hn) (by first | exact hl | simpa using hl))))
noncomputable def F_seq : ((List (SId)) × (List (SId))) → Bool
  | (s1, s2) => bif (↑s1.length : Int) != (↑s2.length : Int) then false else F_seq_0 s1 (s1, s2, (↑s1.length : Int), 0)
noncomputable def P_seq : ((List (SId)) × (List (SId))) → Bool
  | (s1, s2) => bif (↑s1.length : Int) != (↑s2.length : Int) then true else decide (s1.length ≤ 1099511627776) && P_seq_0 s1 (s1, s2, (↑s1.length : Int), 0)
theorem seq_auto : ∀ a : (List (SId)) × (List (SId)), Rns (fun f => M_seq f a) (P_seq a) (F_seq a)
  | (s1, s2) => ev_step (fun f => M_seq_eq f _ _) (ev_bif ev_some (ev_and fun hh => A_seq_0 _ _ _ _ _ rfl (by first | rfl | simp) (of_decide_eq_true hh)))
theorem seq_0 (n : Int) : ∀ (r a b t : List SId) (k : Nat), b.drop k = t → r.length = t.length → F_seq_0 r (a, b, n, k) = decide (r = t) ∧ P_seq_0 r (a, b, n, k) = true := by
  refine same_loop (fun r x => F_seq_0 r (x.1, x.2.1, n, x.2.2)) (fun r x => P_seq_0 r (x.1, x.2.1, n, x.2.2)) (fun _ _ _ => ⟨rfl, rfl⟩) fun u r a b k v t h => ?_
  simp only [F_seq_0, P_seq_0, drop_get h, lt_dec (drop_lt h), id_eq, Bool.true_and]
  exact ⟨by trivial, fun h => by rw [h]; simp⟩
theorem seq_P : ∀ a : List SId × List SId, len40n a.1 = true → P_seq a = true := fun a h => by
  simp only [P_seq, len_bne]
  by_cases e : a.1.length = a.2.length
  · rw [(seq_0 _ a.1 a.1 a.2 a.2 0 rfl e).2]; simp [e]; rw [← e]; exact of_decide_eq_true h
  · simp [e]
theorem seq_F : ∀ a : List SId × List SId, len40n a.1 = true → F_seq a = decide (a.1 = a.2) := fun a h => by
  simp only [F_seq, len_bne]
  by_cases e : a.1.length = a.2.length
  · rw [(seq_0 _ a.1 a.1 a.2 a.2 0 rfl e).1]; simp [e]
  · have : ¬ a.1 = a.2 := fun h => e (by rw [h])
    simp [e, this]
theorem seq_run : ∀ a, (fun a => len40n a.1 : (List (SId)) × (List (SId)) → Bool) a = true → ∃ f, M_seq f a = some ((fun a => decide (a.1 = a.2) : (List (SId)) × (List (SId)) → Bool) a) := fun a h => by have h1 := seq_auto a (seq_P a h); rw [seq_F a h] at h1; exact h1
noncomputable def E_seq : Ent := ⟨93, [.rd tSId, .rd tSId], [.v (.bool)], fun a => (fun a => len40n a.1 : (List (SId)) × (List (SId)) → Bool) a, fun a => (fun a => decide (a.1 = a.2) : (List (SId)) × (List (SId)) → Bool) a⟩
theorem E_seq_ok : E_seq.Ok Try.prog := fun a hp vs hv => (seq_run a hp).elim fun f h => fnX_ok (C := C_seq) (Lt := Lt_seq) (fn := Try.f93) (rs := [.tmp 4]) [.rd tSId, .rd tSId] [.v (.bool)] mixed es_seq Try.func93 rfl rfl rfl (by kernel_rfl) (by kernel_rfl) f h vs hv
/-! ### Capabilities -/
noncomputable def C_crng : Cfg := ⟨Try.prog, [], pmT [], 8, [], []⟩
theorem es_crng : EsOk Try.prog [] [] := es_nil
def Lt_crng : Nat → LD := ldT []
noncomputable def M_crng (f : Nat) (a : SCp) : Option (Rg) := (runX (C_crng) Lt_crng (Kret Try.prog [.cell 2 99] [.g tRg]) f [.code (bodyOf Try.f99)] (initX [.g tSCp] a) : Option (ResT [.g tRg]))
theorem M_crng_eq (f : Nat) (c : SCp) : M_crng (f + 1) c =
    some (c.2.1, c.2.2.1) := by kernel_rfl
noncomputable def F_crng : SCp → Rg
  | c => (c.2.1, c.2.2.1)
noncomputable def P_crng : SCp → Bool
  | c => true
theorem crng_auto : ∀ a : SCp, Rns (fun f => M_crng f a) (P_crng a) (F_crng a)
  | c => ev_step (fun f => M_crng_eq f _) ev_some
theorem crng_P : ∀ a, (fun _ => true) a = true → P_crng a = true := fun _ _ => rfl
theorem crng_F : ∀ a, (fun _ => true) a = true → F_crng a = (fun c : SCp => ((c.2.1, c.2.2.1) : Rg)) a := fun _ _ => rfl
theorem crng_run : ∀ a, (fun _ => true : SCp → Bool) a = true → ∃ f, M_crng f a = some ((fun c => (c.2.1, c.2.2.1) : SCp → Rg) a) := fun a h => by have h1 := crng_auto a (crng_P a h); rw [crng_F a h] at h1; exact h1
noncomputable def E_crng : Ent := ⟨99, [.g tSCp], [.g tRg], fun a => (fun _ => true : SCp → Bool) a, fun a => (fun c => (c.2.1, c.2.2.1) : SCp → Rg) a⟩
theorem E_crng_ok : E_crng.Ok Try.prog := fun a hp vs hv => (crng_run a hp).elim fun f h => fnX_ok (C := C_crng) (Lt := Lt_crng) (fn := Try.f99) (rs := [.cell 2 99]) [.g tSCp] [.g tRg] mixed es_crng Try.func99 rfl rfl rfl (by kernel_rfl) (by kernel_rfl) f h vs hv
noncomputable def C_rrng : Cfg := ⟨Try.prog, [], pmT [], 8, [], []⟩
theorem es_rrng : EsOk Try.prog [] [] := es_nil
def Lt_rrng : Nat → LD := ldT []
noncomputable def M_rrng (f : Nat) (a : SCp) : Option (Rg) := (runX (C_rrng) Lt_rrng (Kret Try.prog [.cell 2 99] [.g tRg]) f [.code (bodyOf Try.f84)] (initX [.g tSCp] a) : Option (ResT [.g tRg]))
theorem M_rrng_eq (f : Nat) (c : SCp) : M_rrng (f + 1) c =
    some (c.2.1, c.2.2.1) := by kernel_rfl
noncomputable def F_rrng : SCp → Rg
  | c => (c.2.1, c.2.2.1)
noncomputable def P_rrng : SCp → Bool
  | c => true
theorem rrng_auto : ∀ a : SCp, Rns (fun f => M_rrng f a) (P_rrng a) (F_rrng a)
  | c => ev_step (fun f => M_rrng_eq f _) ev_some
theorem rrng_P : ∀ a, (fun _ => true) a = true → P_rrng a = true := fun _ _ => rfl
theorem rrng_F : ∀ a, (fun _ => true) a = true → F_rrng a = (fun c : SCp => ((c.2.1, c.2.2.1) : Rg)) a := fun _ _ => rfl
theorem rrng_run : ∀ a, (fun _ => true : SCp → Bool) a = true → ∃ f, M_rrng f a = some ((fun c => (c.2.1, c.2.2.1) : SCp → Rg) a) := fun a h => by have h1 := rrng_auto a (rrng_P a h); rw [rrng_F a h] at h1; exact h1
noncomputable def E_rrng : Ent := ⟨84, [.g tSCp], [.g tRg], fun a => (fun _ => true : SCp → Bool) a, fun a => (fun c => (c.2.1, c.2.2.1) : SCp → Rg) a⟩
theorem E_rrng_ok : E_rrng.Ok Try.prog := fun a hp vs hv => (rrng_run a hp).elim fun f h => fnX_ok (C := C_rrng) (Lt := Lt_rrng) (fn := Try.f84) (rs := [.cell 2 99]) [.g tSCp] [.g tRg] mixed es_rrng Try.func84 rfl rfl rfl (by kernel_rfl) (by kernel_rfl) f h vs hv
noncomputable def C_rfix : Cfg := ⟨Try.prog, [], pmT [], 12, [], []⟩
theorem es_rfix : EsOk Try.prog [] [] := es_nil
def Lt_rfix : Nat → LD := ldT []
noncomputable def M_rfix (f : Nat) (a : Int) : Option (Int) := (runX (C_rfix) Lt_rfix (Kret Try.prog [.tmp 2] [.v (.int .i64)]) f [.code (bodyOf Try.f107)] (initX [.c (.int .i64)] a) : Option (ResT [.v (.int .i64)]))
theorem M_rfix_eq (f : Nat) (kind : Int) : M_rfix (f + 1) kind =
    bif kind == 3 then some 12 else bif kind == 4 then some 6 else bif kind == 5 then some 10 else bif kind == 6 then some 16 else some 0 := by kernel_rfl
noncomputable def F_rfix : Int → Int
  | kind => bif kind == 3 then 12 else bif kind == 4 then 6 else bif kind == 5 then 10 else bif kind == 6 then 16 else 0
noncomputable def P_rfix : Int → Bool
  | kind => true
theorem rfix_auto : ∀ a : Int, Rns (fun f => M_rfix f a) (P_rfix a) (F_rfix a)
  | kind => ev_step (fun f => M_rfix_eq f _) (ev_bift ev_some (ev_bift ev_some (ev_bift ev_some (ev_bift ev_some ev_some))))
theorem rfix_P : ∀ a, (fun _ => true) a = true → P_rfix a = true := fun _ _ => rfl
theorem rfix_F : ∀ a, (fun _ => true) a = true → F_rfix a = F_rfix a := fun _ _ => rfl
theorem rfix_run : ∀ a, (fun _ => true : Int → Bool) a = true → ∃ f, M_rfix f a = some ((F_rfix : Int → Int) a) := fun a h => by have h1 := rfix_auto a (rfix_P a h); rw [rfix_F a h] at h1; exact h1
noncomputable def E_rfix : Ent := ⟨107, [.c (.int .i64)], [.v (.int .i64)], fun a => (fun _ => true : Int → Bool) a, fun a => (F_rfix : Int → Int) a⟩
theorem E_rfix_ok : E_rfix.Ok Try.prog := fun a hp vs hv => (rfix_run a hp).elim fun f h => fnX_ok (C := C_rfix) (Lt := Lt_rfix) (fn := Try.f107) (rs := [.tmp 2]) [.c (.int .i64)] [.v (.int .i64)] mixed es_rfix Try.func107 rfl rfl rfl (by kernel_rfl) (by kernel_rfl) f h vs hv
noncomputable def C_rsiz : Cfg := ⟨Try.prog, [E_rfix], pmT [], 35, [], []⟩
theorem es_rsiz : EsOk Try.prog [E_rfix] [] := es_cons E_rfix_ok (es_nil)
def Lt_rsiz : Nat → LD := ldT []
noncomputable def M_rsiz (f : Nat) (a : Int × Int) : Option (Bool) := (runX (C_rsiz) Lt_rsiz (Kret Try.prog [.tmp 4] [.v (.bool)]) f [.code (bodyOf Try.f94)] (initX [.c (.int .i64), .c (.int .i64)] a) : Option (ResT [.v (.bool)]))
theorem M_rsiz_eq (f : Nat) (kind : Int) (bits : Int) : M_rsiz (f + 1) (kind, bits) =
    bif kind == 1 then bif decide (bits ≥ 6) then some (decide (bits ≤ 40)) else some false else bif kind == 2 then bif decide (bits ≥ 12) then some (decide (bits ≤ 40)) else some false else bif decide (kind ≥ 3) then bif decide (kind ≤ 6) then some (bits == F_rfix kind) else some false else some false := by kernel_rfl
noncomputable def F_rsiz : (Int × Int) → Bool
  | (kind, bits) => bif kind == 1 then bif decide (bits ≥ 6) then decide (bits ≤ 40) else false else bif kind == 2 then bif decide (bits ≥ 12) then decide (bits ≤ 40) else false else bif decide (kind ≥ 3) then bif decide (kind ≤ 6) then bits == F_rfix kind else false else false
noncomputable def P_rsiz : (Int × Int) → Bool
  | (kind, bits) => true
theorem rsiz_auto : ∀ a : Int × Int, Rns (fun f => M_rsiz f a) (P_rsiz a) (F_rsiz a)
  | (kind, bits) => ev_step (fun f => M_rsiz_eq f _ _) (ev_bift (ev_bift ev_some ev_some) (ev_bift (ev_bift ev_some ev_some) (ev_bift (ev_bift ev_some ev_some) ev_some)))
theorem rsiz_P : ∀ a, (fun _ => true) a = true → P_rsiz a = true := fun _ _ => rfl
def sizB (a : Int × Int) : Bool := (decide (a.1 = 1) && (decide (6 ≤ a.2) && decide (a.2 ≤ 40))) || ((decide (a.1 = 2) && (decide (12 ≤ a.2) && decide (a.2 ≤ 40))) || ((decide (a.1 = 3) && decide (a.2 = 12)) || ((decide (a.1 = 4) && decide (a.2 = 6)) || ((decide (a.1 = 5) && decide (a.2 = 10)) || (decide (a.1 = 6) && decide (a.2 = 16))))))
theorem sizB_iff (k b : Int) : sizB (k, b) = true ↔ (k = 1 ∧ 6 ≤ b ∧ b ≤ 40) ∨ (k = 2 ∧ 12 ≤ b ∧ b ≤ 40) ∨ (k = 3 ∧ b = 12) ∨ (k = 4 ∧ b = 6) ∨ (k = 5 ∧ b = 10) ∨ (k = 6 ∧ b = 16) := by simp [sizB]
theorem rsiz_F : ∀ a, (fun _ => true) a = true → F_rsiz a = sizB a := by
  rintro ⟨k, b⟩ _
  rw [Bool.eq_iff_iff, sizB_iff]
  simp only [F_rsiz, F_rfix, bif_and]
  by_cases h1 : k = 1
  · subst h1; simp
  by_cases h2 : k = 2
  · subst h2; simp
  by_cases h3 : k = 3
  · subst h3; simp
  by_cases h4 : k = 4
  · subst h4; simp
  by_cases h5 : k = 5
  · subst h5; simp
  by_cases h6 : k = 6
  · subst h6; simp
  simp [h1, h2, h3, h4, h5, h6]; omega
theorem rsiz_run : ∀ a, (fun _ => true : Int × Int → Bool) a = true → ∃ f, M_rsiz f a = some ((sizB : Int × Int → Bool) a) := fun a h => by have h1 := rsiz_auto a (rsiz_P a h); rw [rsiz_F a h] at h1; exact h1
noncomputable def E_rsiz : Ent := ⟨94, [.c (.int .i64), .c (.int .i64)], [.v (.bool)], fun a => (fun _ => true : Int × Int → Bool) a, fun a => (sizB : Int × Int → Bool) a⟩
theorem E_rsiz_ok : E_rsiz.Ok Try.prog := fun a hp vs hv => (rsiz_run a hp).elim fun f h => fnX_ok (C := C_rsiz) (Lt := Lt_rsiz) (fn := Try.f94) (rs := [.tmp 4]) [.c (.int .i64), .c (.int .i64)] [.v (.bool)] mixed es_rsiz Try.func94 rfl rfl rfl (by kernel_rfl) (by kernel_rfl) f h vs hv
noncomputable def C_szal : Cfg := ⟨Try.prog, [], pmT [], 38, [], []⟩
theorem es_szal : EsOk Try.prog [] [] := es_nil
def Lt_szal : Nat → LD := ldT []
noncomputable def M_szal (f : Nat) (a : Int × Int) : Option (Bool) := (runX (C_szal) Lt_szal (Kret Try.prog [.tmp 4] [.v (.bool)]) f [.code (bodyOf Try.f97)] (initX [.c (.int .i64), .c (.int .i64)] a) : Option (ResT [.v (.bool)]))
theorem M_szal_eq (f : Nat) (kind : Int) (bits : Int) : M_szal (f + 1) (kind, bits) =
    bif kind == 1 then bif decide (bits ≥ 6) then some (decide (bits ≤ 40)) else some false else bif kind == 2 then bif decide (bits ≥ 12) then some (decide (bits ≤ 40)) else some false else bif kind == 3 then some (bits == 12) else bif kind == 4 then some (bits == 6) else bif kind == 5 then some (bits == 10) else bif kind == 6 then some (bits == 16) else some false := by kernel_rfl
noncomputable def F_szal : (Int × Int) → Bool
  | (kind, bits) => bif kind == 1 then bif decide (bits ≥ 6) then decide (bits ≤ 40) else false else bif kind == 2 then bif decide (bits ≥ 12) then decide (bits ≤ 40) else false else bif kind == 3 then bits == 12 else bif kind == 4 then bits == 6 else bif kind == 5 then bits == 10 else bif kind == 6 then bits == 16 else false
noncomputable def P_szal : (Int × Int) → Bool
  | (kind, bits) => true
theorem szal_auto : ∀ a : Int × Int, Rns (fun f => M_szal f a) (P_szal a) (F_szal a)
  | (kind, bits) => ev_step (fun f => M_szal_eq f _ _) (ev_bift (ev_bift ev_some ev_some) (ev_bift (ev_bift ev_some ev_some) (ev_bift ev_some (ev_bift ev_some (ev_bift ev_some (ev_bift ev_some ev_some))))))
theorem szal_P : ∀ a, (fun _ => true) a = true → P_szal a = true := fun _ _ => rfl
theorem szal_F : ∀ a, (fun _ => true) a = true → F_szal a = sizB a := by
  rintro ⟨k, b⟩ _
  rw [Bool.eq_iff_iff, sizB_iff]
  simp only [F_szal, bif_and]
  by_cases h1 : k = 1
  · subst h1; simp
  by_cases h2 : k = 2
  · subst h2; simp
  by_cases h3 : k = 3
  · subst h3; simp
  by_cases h4 : k = 4
  · subst h4; simp
  by_cases h5 : k = 5
  · subst h5; simp
  by_cases h6 : k = 6
  · subst h6; simp
  simp [h1, h2, h3, h4, h5, h6]
theorem szal_run : ∀ a, (fun _ => true : Int × Int → Bool) a = true → ∃ f, M_szal f a = some ((sizB : Int × Int → Bool) a) := fun a h => by have h1 := szal_auto a (szal_P a h); rw [szal_F a h] at h1; exact h1
noncomputable def E_szal : Ent := ⟨97, [.c (.int .i64), .c (.int .i64)], [.v (.bool)], fun a => (fun _ => true : Int × Int → Bool) a, fun a => (sizB : Int × Int → Bool) a⟩
theorem E_szal_ok : E_szal.Ok Try.prog := fun a hp vs hv => (szal_run a hp).elim fun f h => fnX_ok (C := C_szal) (Lt := Lt_szal) (fn := Try.f97) (rs := [.tmp 4]) [.c (.int .i64), .c (.int .i64)] [.v (.bool)] mixed es_szal Try.func97 rfl rfl rfl (by kernel_rfl) (by kernel_rfl) f h vs hv
def levB (a : Int × Int) : Bool := decide (0 ≤ a.2) && ((decide (a.1 = 32) && decide (a.2 ≤ 1)) || (decide (a.1 = 39) && decide (a.2 ≤ 2)))
theorem levB_iff (w l : Int) : levB (w, l) = true ↔ 0 ≤ l ∧ ((w = 32 ∧ l ≤ 1) ∨ (w = 39 ∧ l ≤ 2)) := by simp [levB]
noncomputable def C_rlev : Cfg := ⟨Try.prog, [], pmT [], 23, [], []⟩
theorem es_rlev : EsOk Try.prog [] [] := es_nil
def Lt_rlev : Nat → LD := ldT []
noncomputable def M_rlev (f : Nat) (a : Int × Int) : Option (Bool) := (runX (C_rlev) Lt_rlev (Kret Try.prog [.tmp 4] [.v (.bool)]) f [.code (bodyOf Try.f96)] (initX [.c (.int .i64), .c (.int .i64)] a) : Option (ResT [.v (.bool)]))
theorem M_rlev_eq (f : Nat) (width : Int) (level : Int) : M_rlev (f + 1) (width, level) =
    bif decide (level ≥ 0) then bif width == 32 then bif decide (level ≤ 1) then some true else bif width == 39 then some (decide (level ≤ 2)) else some false else bif width == 39 then some (decide (level ≤ 2)) else some false else some false := by kernel_rfl
noncomputable def F_rlev : (Int × Int) → Bool
  | (width, level) => bif decide (level ≥ 0) then bif width == 32 then bif decide (level ≤ 1) then true else bif width == 39 then decide (level ≤ 2) else false else bif width == 39 then decide (level ≤ 2) else false else false
noncomputable def P_rlev : (Int × Int) → Bool
  | (width, level) => true
theorem rlev_auto : ∀ a : Int × Int, Rns (fun f => M_rlev f a) (P_rlev a) (F_rlev a)
  | (width, level) => ev_step (fun f => M_rlev_eq f _ _) (ev_bift (ev_bift (ev_bift ev_some (ev_bift ev_some ev_some)) (ev_bift ev_some ev_some)) ev_some)
theorem rlev_P : ∀ a, (fun _ => true) a = true → P_rlev a = true := fun _ _ => rfl
theorem rlev_F : ∀ a, (fun _ => true) a = true → F_rlev a = levB a := by
  rintro ⟨w, l⟩ _
  rw [Bool.eq_iff_iff, levB_iff]
  simp only [F_rlev, bif_and]
  by_cases h1 : w = 32
  · subst h1; simp
  by_cases h2 : w = 39
  · subst h2; simp
  simp [h1, h2]
theorem rlev_run : ∀ a, (fun _ => true : Int × Int → Bool) a = true → ∃ f, M_rlev f a = some ((levB : Int × Int → Bool) a) := fun a h => by have h1 := rlev_auto a (rlev_P a h); rw [rlev_F a h] at h1; exact h1
noncomputable def E_rlev : Ent := ⟨96, [.c (.int .i64), .c (.int .i64)], [.v (.bool)], fun a => (fun _ => true : Int × Int → Bool) a, fun a => (levB : Int × Int → Bool) a⟩
theorem E_rlev_ok : E_rlev.Ok Try.prog := fun a hp vs hv => (rlev_run a hp).elim fun f h => fnX_ok (C := C_rlev) (Lt := Lt_rlev) (fn := Try.f96) (rs := [.tmp 4]) [.c (.int .i64), .c (.int .i64)] [.v (.bool)] mixed es_rlev Try.func96 rfl rfl rfl (by kernel_rfl) (by kernel_rfl) f h vs hv
noncomputable def C_fmal : Cfg := ⟨Try.prog, [], pmT [], 22, [], []⟩
theorem es_fmal : EsOk Try.prog [] [] := es_nil
def Lt_fmal : Nat → LD := ldT []
noncomputable def M_fmal (f : Nat) (a : Int × Int) : Option (Bool) := (runX (C_fmal) Lt_fmal (Kret Try.prog [.tmp 4] [.v (.bool)]) f [.code (bodyOf Try.f100)] (initX [.c (.int .i64), .c (.int .i64)] a) : Option (ResT [.v (.bool)]))
theorem M_fmal_eq (f : Nat) (width : Int) (level : Int) : M_fmal (f + 1) (width, level) =
    bif width == 32 then bif decide (level ≥ 0) then some (decide (level ≤ 1)) else some false else bif width == 39 then bif decide (level ≥ 0) then some (decide (level ≤ 2)) else some false else some false := by kernel_rfl
noncomputable def F_fmal : (Int × Int) → Bool
  | (width, level) => bif width == 32 then bif decide (level ≥ 0) then decide (level ≤ 1) else false else bif width == 39 then bif decide (level ≥ 0) then decide (level ≤ 2) else false else false
noncomputable def P_fmal : (Int × Int) → Bool
  | (width, level) => true
theorem fmal_auto : ∀ a : Int × Int, Rns (fun f => M_fmal f a) (P_fmal a) (F_fmal a)
  | (width, level) => ev_step (fun f => M_fmal_eq f _ _) (ev_bift (ev_bift ev_some ev_some) (ev_bift (ev_bift ev_some ev_some) ev_some))
theorem fmal_P : ∀ a, (fun _ => true) a = true → P_fmal a = true := fun _ _ => rfl
theorem fmal_F : ∀ a, (fun _ => true) a = true → F_fmal a = levB a := by
  rintro ⟨w, l⟩ _
  rw [Bool.eq_iff_iff, levB_iff]
  simp only [F_fmal, bif_and]
  by_cases h1 : w = 32
  · subst h1; simp
  by_cases h2 : w = 39
  · subst h2; simp
  simp [h1, h2]
theorem fmal_run : ∀ a, (fun _ => true : Int × Int → Bool) a = true → ∃ f, M_fmal f a = some ((levB : Int × Int → Bool) a) := fun a h => by have h1 := fmal_auto a (fmal_P a h); rw [fmal_F a h] at h1; exact h1
noncomputable def E_fmal : Ent := ⟨100, [.c (.int .i64), .c (.int .i64)], [.v (.bool)], fun a => (fun _ => true : Int × Int → Bool) a, fun a => (levB : Int × Int → Bool) a⟩
theorem E_fmal_ok : E_fmal.Ok Try.prog := fun a hp vs hv => (fmal_run a hp).elim fun f h => fnX_ok (C := C_fmal) (Lt := Lt_fmal) (fn := Try.f100) (rs := [.tmp 4]) [.c (.int .i64), .c (.int .i64)] [.v (.bool)] mixed es_fmal Try.func100 rfl rfl rfl (by kernel_rfl) (by kernel_rfl) f h vs hv
def sobB (a : SCp × SCp) : Bool := decide (a.1.1 = a.2.1) && (decide (a.1.2.1 = a.2.2.1) && (decide (a.1.2.2.1 = a.2.2.2.1) && (decide (a.1.2.2.2.2.1 = a.2.2.2.2.2.1) && (decide (a.1.2.2.2.2.2.1 = a.2.2.2.2.2.2.1) && (a.1.2.2.2.2.2.2 == a.2.2.2.2.2.2.2)))))
theorem beqI (a b : Int) : (a == b) = decide (a = b) := by rw [Bool.eq_iff_iff]; simp
noncomputable def C_rsob : Cfg := ⟨Try.prog, [], pmT [], 45, [], []⟩
theorem es_rsob : EsOk Try.prog [] [] := es_nil
def Lt_rsob : Nat → LD := ldT []
noncomputable def M_rsob (f : Nat) (a : SCp × SCp) : Option (Bool) := (runX (C_rsob) Lt_rsob (Kret Try.prog [.tmp 4] [.v (.bool)]) f [.code (bodyOf Try.f85)] (initX [.g tSCp, .g tSCp] a) : Option (ResT [.v (.bool)]))
theorem M_rsob_eq (f : Nat) (a : SCp) (b : SCp) : M_rsob (f + 1) (a, b) =
    bif a.1 == b.1 then bif a.2.1 == b.2.1 then bif a.2.2.1 == b.2.2.1 then bif a.2.2.2.2.1 == b.2.2.2.2.1 then bif a.2.2.2.2.2.1 == b.2.2.2.2.2.1 then some (a.2.2.2.2.2.2 == b.2.2.2.2.2.2) else some false else some false else some false else some false else some false := by kernel_rfl
noncomputable def F_rsob : (SCp × SCp) → Bool
  | (a, b) => bif a.1 == b.1 then bif a.2.1 == b.2.1 then bif a.2.2.1 == b.2.2.1 then bif a.2.2.2.2.1 == b.2.2.2.2.1 then bif a.2.2.2.2.2.1 == b.2.2.2.2.2.1 then a.2.2.2.2.2.2 == b.2.2.2.2.2.2 else false else false else false else false else false
noncomputable def P_rsob : (SCp × SCp) → Bool
  | (a, b) => true
theorem rsob_auto : ∀ a : SCp × SCp, Rns (fun f => M_rsob f a) (P_rsob a) (F_rsob a)
  | (a, b) => ev_step (fun f => M_rsob_eq f _ _) (ev_bift (ev_bift (ev_bift (ev_bift (ev_bift ev_some ev_some) ev_some) ev_some) ev_some) ev_some)
theorem rsob_P : ∀ a, (fun _ => true) a = true → P_rsob a = true := fun _ _ => rfl
theorem rsob_F : ∀ a, (fun _ => true) a = true → F_rsob a = sobB a := fun a _ => by simp only [F_rsob, sobB, bif_and, beqI]
theorem rsob_run : ∀ a, (fun _ => true : SCp × SCp → Bool) a = true → ∃ f, M_rsob f a = some ((sobB : SCp × SCp → Bool) a) := fun a h => by have h1 := rsob_auto a (rsob_P a h); rw [rsob_F a h] at h1; exact h1
noncomputable def E_rsob : Ent := ⟨85, [.g tSCp, .g tSCp], [.v (.bool)], fun a => (fun _ => true : SCp × SCp → Bool) a, fun a => (sobB : SCp × SCp → Bool) a⟩
theorem E_rsob_ok : E_rsob.Ok Try.prog := fun a hp vs hv => (rsob_run a hp).elim fun f h => fnX_ok (C := C_rsob) (Lt := Lt_rsob) (fn := Try.f85) (rs := [.tmp 4]) [.g tSCp, .g tSCp] [.v (.bool)] mixed es_rsob Try.func85 rfl rfl rfl (by kernel_rfl) (by kernel_rfl) f h vs hv
def coexB (a : SCp × SCp) : Bool := !overlaps ((a.1.2.1, a.1.2.2.1), (a.2.2.1, a.2.2.2.1)) || (sobB a || ((decide (a.1.1 = 1) && contains ((a.1.2.1, a.1.2.2.1), (a.2.2.1, a.2.2.2.1))) || (decide (a.2.1 = 1) && contains ((a.2.2.1, a.2.2.2.1), (a.1.2.1, a.1.2.2.1)))))
noncomputable def C_rcoe : Cfg := ⟨Try.prog, [E_rrng, E_rover, E_rsob, E_rcont], pmT [(1, ([(0, []), (2, []), (1, []), (3, []), (4, []), (5, []), (6, []), (7, []), (8, []), (9, []), (10, []), (11, [])], [(5, 16)])), (3, ([(0, []), (1, []), (2, []), (3, []), (4, []), (6, []), (5, []), (7, []), (8, []), (9, []), (10, [])], [(17, 27)])), (5, ([(0, []), (1, []), (2, []), (3, []), (4, []), (6, []), (5, []), (7, []), (8, []), (9, []), (10, [])], [(4, 4), (28, 37)]))], 38, [], []⟩
theorem es_rcoe : EsOk Try.prog [E_rrng, E_rover, E_rsob, E_rcont] [] := es_cons E_rrng_ok (es_cons E_rover_ok (es_cons E_rsob_ok (es_cons E_rcont_ok (es_nil))))
def Lt_rcoe : Nat → LD := ldT []
noncomputable def M_rcoe (f : Nat) (a : SCp × SCp) : Option (Bool) := (runX (C_rcoe) Lt_rcoe (Kret Try.prog [.tmp 4] [.v (.bool)]) f [.code (bodyOf Try.f68)] (initX [.g tSCp, .g tSCp] a) : Option (ResT [.v (.bool)]))
theorem M_rcoe_eq (f : Nat) (a : SCp) (b : SCp) : M_rcoe (f + 1) (a, b) =
    bif !overlaps ((a.2.1, a.2.2.1), b.2.1, b.2.2.1) then some true else bif sobB (a, b) then some true else bif a.1 == 1 then bif contains ((a.2.1, a.2.2.1), b.2.1, b.2.2.1) then some true else bif b.1 == 1 then some (contains ((b.2.1, b.2.2.1), a.2.1, a.2.2.1)) else some false else bif b.1 == 1 then some (contains ((b.2.1, b.2.2.1), a.2.1, a.2.2.1)) else some false := by kernel_rfl
noncomputable def F_rcoe : (SCp × SCp) → Bool
  | (a, b) => bif !overlaps ((a.2.1, a.2.2.1), b.2.1, b.2.2.1) then true else bif sobB (a, b) then true else bif a.1 == 1 then bif contains ((a.2.1, a.2.2.1), b.2.1, b.2.2.1) then true else bif b.1 == 1 then contains ((b.2.1, b.2.2.1), a.2.1, a.2.2.1) else false else bif b.1 == 1 then contains ((b.2.1, b.2.2.1), a.2.1, a.2.2.1) else false
noncomputable def P_rcoe : (SCp × SCp) → Bool
  | (a, b) => true
theorem rcoe_auto : ∀ a : SCp × SCp, Rns (fun f => M_rcoe f a) (P_rcoe a) (F_rcoe a)
  | (a, b) => ev_step (fun f => M_rcoe_eq f _ _) (ev_bift ev_some (ev_bift ev_some (ev_bift (ev_bift ev_some (ev_bift ev_some ev_some)) (ev_bift ev_some ev_some))))
theorem rcoe_P : ∀ a, (fun _ => true) a = true → P_rcoe a = true := fun _ _ => rfl
theorem rcoe_F : ∀ a, (fun _ => true) a = true → F_rcoe a = coexB a := by
  rintro ⟨a, b⟩ _
  simp only [F_rcoe, coexB, beqI]
  cases overlaps ((a.2.1, a.2.2.1), b.2.1, b.2.2.1) <;> cases sobB (a, b) <;> cases decide (a.1 = 1) <;> cases decide (b.1 = 1) <;> cases contains ((a.2.1, a.2.2.1), b.2.1, b.2.2.1) <;> rfl
theorem rcoe_run : ∀ a, (fun _ => true : SCp × SCp → Bool) a = true → ∃ f, M_rcoe f a = some ((coexB : SCp × SCp → Bool) a) := fun a h => by have h1 := rcoe_auto a (rcoe_P a h); rw [rcoe_F a h] at h1; exact h1
noncomputable def E_rcoe : Ent := ⟨68, [.g tSCp, .g tSCp], [.v (.bool)], fun a => (fun _ => true : SCp × SCp → Bool) a, fun a => (coexB : SCp × SCp → Bool) a⟩
theorem E_rcoe_ok : E_rcoe.Ok Try.prog := fun a hp vs hv => (rcoe_run a hp).elim fun f h => fnX_ok (C := C_rcoe) (Lt := Lt_rcoe) (fn := Try.f68) (rs := [.tmp 4]) [.g tSCp, .g tSCp] [.v (.bool)] mixed es_rcoe Try.func68 rfl rfl rfl (by kernel_rfl) (by kernel_rfl) f h vs hv
noncomputable def C_ratt : Cfg := ⟨Try.prog, [], pmT [], 11, [], []⟩
theorem es_ratt : EsOk Try.prog [] [] := es_nil
def Lt_ratt : Nat → LD := ldT []
noncomputable def M_ratt (f : Nat) (a : SCp × Int) : Option (SCp) := (runX (C_ratt) Lt_ratt (Kret Try.prog [.cell 4 29] [.g tSCp]) f [.code (bodyOf Try.f90)] (initX [.g tSCp, .c (.int .i64)] a) : Option (ResT [.g tSCp]))
theorem M_ratt_eq (f : Nat) (c : SCp) (mask : Int) : M_ratt (f + 1) (c, mask) =
    some (c.1, c.2.1, c.2.2.1, IntKind.i64.wrap (↑(BitVec.ofInt IntKind.i64.bits c.2.2.2.1 &&& BitVec.ofInt IntKind.i64.bits mask).toNat : Int), c.2.2.2.2) := by kernel_rfl
noncomputable def F_ratt : (SCp × Int) → SCp
  | (c, mask) => (c.1, c.2.1, c.2.2.1, IntKind.i64.wrap (↑(BitVec.ofInt IntKind.i64.bits c.2.2.2.1 &&& BitVec.ofInt IntKind.i64.bits mask).toNat : Int), c.2.2.2.2)
noncomputable def P_ratt : (SCp × Int) → Bool
  | (c, mask) => true
theorem ratt_auto : ∀ a : SCp × Int, Rns (fun f => M_ratt f a) (P_ratt a) (F_ratt a)
  | (c, mask) => ev_step (fun f => M_ratt_eq f _ _) ev_some
theorem ratt_P : ∀ a, (fun _ => true) a = true → P_ratt a = true := fun _ _ => rfl
theorem ratt_F : ∀ a, (fun _ => true) a = true → F_ratt a = F_ratt a := fun _ _ => rfl
theorem ratt_run : ∀ a, (fun _ => true : SCp × Int → Bool) a = true → ∃ f, M_ratt f a = some ((F_ratt : SCp × Int → SCp) a) := fun a h => by have h1 := ratt_auto a (ratt_P a h); rw [ratt_F a h] at h1; exact h1
noncomputable def E_ratt : Ent := ⟨90, [.g tSCp, .c (.int .i64)], [.g tSCp], fun a => (fun _ => true : SCp × Int → Bool) a, fun a => (F_ratt : SCp × Int → SCp) a⟩
theorem E_ratt_ok : E_ratt.Ok Try.prog := fun a hp vs hv => (ratt_run a hp).elim fun f h => fnX_ok (C := C_ratt) (Lt := Lt_ratt) (fn := Try.f90) (rs := [.cell 4 29]) [.g tSCp, .c (.int .i64)] [.g tSCp] mixed es_ratt Try.func90 rfl rfl rfl (by kernel_rfl) (by kernel_rfl) f h vs hv
def vcapB (c : SCp) : Bool := sizB (c.1, c.2.2.1) && (valid (c.2.1, c.2.2.1) && (decide (0 ≤ c.2.2.2.1) && (decide (c.2.2.2.1 ≤ 7) && ((bif decide (c.1 = 3) then levB (c.2.2.2.2.1, c.2.2.2.2.2.1) else decide (c.2.2.2.2.1 = 0) && decide (c.2.2.2.2.2.1 = 0)) && (!c.2.2.2.2.2.2 || (decide (c.1 = 1) || decide (c.1 = 2)))))))
theorem bneI (a b : Int) : (a != b) = !decide (a = b) := by rw [bne, beqI]
noncomputable def C_rvcap : Cfg := ⟨Try.prog, [E_rsiz, E_rrng, E_rvalid, E_rlev], pmT [], 64, [], []⟩
theorem es_rvcap : EsOk Try.prog [E_rsiz, E_rrng, E_rvalid, E_rlev] [] := es_cons E_rsiz_ok (es_cons E_rrng_ok (es_cons E_rvalid_ok (es_cons E_rlev_ok (es_nil))))
def Lt_rvcap : Nat → LD := ldT []
noncomputable def M_rvcap (f : Nat) (a : SCp) : Option (Bool) := (runX (C_rvcap) Lt_rvcap (Kret Try.prog [.tmp 2] [.v (.bool)]) f [.code (bodyOf Try.f74)] (initX [.g tSCp] a) : Option (ResT [.v (.bool)]))
theorem M_rvcap_eq (f : Nat) (c : SCp) : M_rvcap (f + 1) c =
    bif !sizB (c.1, c.2.2.1) then some false else bif !valid (c.2.1, c.2.2.1) then some false else bif decide (c.2.2.2.1 < 0) then some false else bif decide (c.2.2.2.1 > 7) then some false else bif c.1 == 3 then bif !levB (c.2.2.2.2.1, c.2.2.2.2.2.1) then some false else bif c.1 != 3 then bif c.2.2.2.2.1 != 0 then some false else bif c.2.2.2.2.2.1 != 0 then some false else bif !c.2.2.2.2.2.2 then some true else bif c.1 == 1 then some true else some (c.1 == 2) else bif !c.2.2.2.2.2.2 then some true else bif c.1 == 1 then some true else some (c.1 == 2) else bif c.1 != 3 then bif c.2.2.2.2.1 != 0 then some false else bif c.2.2.2.2.2.1 != 0 then some false else bif !c.2.2.2.2.2.2 then some true else bif c.1 == 1 then some true else some (c.1 == 2) else bif !c.2.2.2.2.2.2 then some true else bif c.1 == 1 then some true else some (c.1 == 2) := by kernel_rfl
noncomputable def F_rvcap : SCp → Bool
  | c => bif !sizB (c.1, c.2.2.1) then false else bif !valid (c.2.1, c.2.2.1) then false else bif decide (c.2.2.2.1 < 0) then false else bif decide (c.2.2.2.1 > 7) then false else bif c.1 == 3 then bif !levB (c.2.2.2.2.1, c.2.2.2.2.2.1) then false else bif c.1 != 3 then bif c.2.2.2.2.1 != 0 then false else bif c.2.2.2.2.2.1 != 0 then false else bif !c.2.2.2.2.2.2 then true else bif c.1 == 1 then true else c.1 == 2 else bif !c.2.2.2.2.2.2 then true else bif c.1 == 1 then true else c.1 == 2 else bif c.1 != 3 then bif c.2.2.2.2.1 != 0 then false else bif c.2.2.2.2.2.1 != 0 then false else bif !c.2.2.2.2.2.2 then true else bif c.1 == 1 then true else c.1 == 2 else bif !c.2.2.2.2.2.2 then true else bif c.1 == 1 then true else c.1 == 2
noncomputable def P_rvcap : SCp → Bool
  | c => true
theorem rvcap_auto : ∀ a : SCp, Rns (fun f => M_rvcap f a) (P_rvcap a) (F_rvcap a)
  | c => ev_step (fun f => M_rvcap_eq f _) (ev_bift ev_some (ev_bift ev_some (ev_bift ev_some (ev_bift ev_some (ev_bift (ev_bift ev_some (ev_bift (ev_bift ev_some (ev_bift ev_some (ev_bift ev_some (ev_bift ev_some ev_some)))) (ev_bift ev_some (ev_bift ev_some ev_some)))) (ev_bift (ev_bift ev_some (ev_bift ev_some (ev_bift ev_some (ev_bift ev_some ev_some)))) (ev_bift ev_some (ev_bift ev_some ev_some))))))))
theorem rvcap_P : ∀ a, (fun _ => true) a = true → P_rvcap a = true := fun _ _ => rfl
theorem rvcap_F : ∀ a, (fun _ => true) a = true → F_rvcap a = vcapB a := by
  rintro ⟨k, b, z, r, w, l, d⟩ _
  simp only [F_rvcap, vcapB, beqI, bneI]
  rw [show decide (0 ≤ r) = !decide (r < 0) by rw [← decide_not]; exact decide_eq_decide.2 (by omega), show decide (r ≤ 7) = !decide (r > 7) by rw [← decide_not]; exact decide_eq_decide.2 (by omega)]
  cases sizB (k, z) <;> cases valid (b, z) <;> cases decide (r < 0) <;> cases decide (r > 7) <;> (try rfl)
  by_cases h3 : k = 3
  · subst h3; cases levB (w, l) <;> cases d <;> rfl
  · rw [decide_eq_false h3]
    cases decide (w = 0) <;> cases decide (l = 0) <;> cases d <;> cases decide (k = 1) <;> rfl
theorem rvcap_run : ∀ a, (fun _ => true : SCp → Bool) a = true → ∃ f, M_rvcap f a = some ((vcapB : SCp → Bool) a) := fun a h => by have h1 := rvcap_auto a (rvcap_P a h); rw [rvcap_F a h] at h1; exact h1
noncomputable def E_rvcap : Ent := ⟨74, [.g tSCp], [.v (.bool)], fun a => (fun _ => true : SCp → Bool) a, fun a => (vcapB : SCp → Bool) a⟩
theorem E_rvcap_ok : E_rvcap.Ok Try.prog := fun a hp vs hv => (rvcap_run a hp).elim fun f h => fnX_ok (C := C_rvcap) (Lt := Lt_rvcap) (fn := Try.f74) (rs := [.tmp 2]) [.g tSCp] [.v (.bool)] mixed es_rvcap Try.func74 rfl rfl rfl (by kernel_rfl) (by kernel_rfl) f h vs hv
noncomputable def C_vcap : Cfg := ⟨Try.prog, [E_szal, E_crng, E_valid, E_fmal], pmT [], 55, [], []⟩
theorem es_vcap : EsOk Try.prog [E_szal, E_crng, E_valid, E_fmal] [] := es_cons E_szal_ok (es_cons E_crng_ok (es_cons E_valid_ok (es_cons E_fmal_ok (es_nil))))
def Lt_vcap : Nat → LD := ldT []
noncomputable def M_vcap (f : Nat) (a : SCp) : Option (Bool) := (runX (C_vcap) Lt_vcap (Kret Try.prog [.tmp 2] [.v (.bool)]) f [.code (bodyOf Try.f77)] (initX [.g tSCp] a) : Option (ResT [.v (.bool)]))
theorem M_vcap_eq (f : Nat) (c : SCp) : M_vcap (f + 1) c =
    bif !sizB (c.1, c.2.2.1) then some false else bif !valid (c.2.1, c.2.2.1) then some false else bif decide (c.2.2.2.1 < 0) then some false else bif decide (c.2.2.2.1 > 7) then some false else bif c.1 == 3 then bif !levB (c.2.2.2.2.1, c.2.2.2.2.2.1) then some false else bif !c.2.2.2.2.2.2 then some true else bif c.1 == 1 then some true else some (c.1 == 2) else bif c.2.2.2.2.1 != 0 then some false else bif c.2.2.2.2.2.1 != 0 then some false else bif !c.2.2.2.2.2.2 then some true else bif c.1 == 1 then some true else some (c.1 == 2) := by kernel_rfl
noncomputable def F_vcap : SCp → Bool
  | c => bif !sizB (c.1, c.2.2.1) then false else bif !valid (c.2.1, c.2.2.1) then false else bif decide (c.2.2.2.1 < 0) then false else bif decide (c.2.2.2.1 > 7) then false else bif c.1 == 3 then bif !levB (c.2.2.2.2.1, c.2.2.2.2.2.1) then false else bif !c.2.2.2.2.2.2 then true else bif c.1 == 1 then true else c.1 == 2 else bif c.2.2.2.2.1 != 0 then false else bif c.2.2.2.2.2.1 != 0 then false else bif !c.2.2.2.2.2.2 then true else bif c.1 == 1 then true else c.1 == 2
noncomputable def P_vcap : SCp → Bool
  | c => true
theorem vcap_auto : ∀ a : SCp, Rns (fun f => M_vcap f a) (P_vcap a) (F_vcap a)
  | c => ev_step (fun f => M_vcap_eq f _) (ev_bift ev_some (ev_bift ev_some (ev_bift ev_some (ev_bift ev_some (ev_bift (ev_bift ev_some (ev_bift ev_some (ev_bift ev_some ev_some))) (ev_bift ev_some (ev_bift ev_some (ev_bift ev_some (ev_bift ev_some ev_some)))))))))
theorem vcap_P : ∀ a, (fun _ => true) a = true → P_vcap a = true := fun _ _ => rfl
theorem vcap_F : ∀ a, (fun _ => true) a = true → F_vcap a = vcapB a := by
  rintro ⟨k, b, z, r, w, l, d⟩ _
  simp only [F_vcap, vcapB, beqI, bneI]
  rw [show decide (0 ≤ r) = !decide (r < 0) by rw [← decide_not]; exact decide_eq_decide.2 (by omega), show decide (r ≤ 7) = !decide (r > 7) by rw [← decide_not]; exact decide_eq_decide.2 (by omega)]
  cases sizB (k, z) <;> cases valid (b, z) <;> cases decide (r < 0) <;> cases decide (r > 7) <;> (try rfl)
  by_cases h3 : k = 3
  · subst h3; cases levB (w, l) <;> cases d <;> rfl
  · rw [decide_eq_false h3]
    cases decide (w = 0) <;> cases decide (l = 0) <;> cases d <;> cases decide (k = 1) <;> rfl
theorem vcap_run : ∀ a, (fun _ => true : SCp → Bool) a = true → ∃ f, M_vcap f a = some ((vcapB : SCp → Bool) a) := fun a h => by have h1 := vcap_auto a (vcap_P a h); rw [vcap_F a h] at h1; exact h1
noncomputable def E_vcap : Ent := ⟨77, [.g tSCp], [.v (.bool)], fun a => (fun _ => true : SCp → Bool) a, fun a => (vcapB : SCp → Bool) a⟩
theorem E_vcap_ok : E_vcap.Ok Try.prog := fun a hp vs hv => (vcap_run a hp).elim fun f h => fnX_ok (C := C_vcap) (Lt := Lt_vcap) (fn := Try.f77) (rs := [.tmp 2]) [.g tSCp] [.v (.bool)] mixed es_vcap Try.func77 rfl rfl rfl (by kernel_rfl) (by kernel_rfl) f h vs hv
def retCaps (src : SCp) (ob bits wid lev off : Int) : Nat → Nat → List SCp
  | 0, _ => []
  | n + 1, k => (ob, src.2.1 + off + (k : Int) * p2 bits, bits, src.2.2.2.1, wid, lev, src.2.2.2.2.2.2) :: retCaps src ob bits wid lev off n (k + 1)
def and2 (r : Int) : Bool := IntKind.i64.wrap (((BitVec.ofInt IntKind.i64.bits r &&& BitVec.ofInt IntKind.i64.bits 2).toNat : Nat) : Int) == 0
def retS (a : SCp × Int × Int × Int × Int × Int × Int) : List SCp × Int := match a with
  | (src, ob, bits, lev, wid, off, cnt) =>
    bif !vcapB src || !decide (src.1 = 1) then ([], 5)
    else bif and2 src.2.2.2.1 then ([], 8)
    else bif !sizB (ob, bits) || (decide (ob = 3) && !levB (wid, lev) || (decide (cnt < 1) || (decide (cnt > 8) || decide (off < 0)))) then ([], 1)
    else bif src.2.2.2.2.2.2 && (!decide (ob = 1) && !decide (ob = 2)) then ([], 5)
    else bif !decide (Int.tmod off (p2 bits) = 0) || (decide (off > p2 src.2.2.1) || (decide (cnt * p2 bits > p2 src.2.2.1 - off) || decide (ob = 1) && decide (bits ≥ src.2.2.1))) then ([], 6)
    else (retCaps src ob bits (bif decide (ob = 3) then wid else 0) (bif decide (ob = 3) then lev else 0) off cnt.toNat 0, 0)
theorem vcapB_bits {c : SCp} (h : vcapB c = true) : 6 ≤ c.2.2.1 ∧ c.2.2.1 ≤ 40 ∧ valid (c.2.1, c.2.2.1) = true := by
  simp only [vcapB, Bool.and_eq_true] at h
  have := valid_elim h.2.1
  exact ⟨this.1, this.2.1, h.2.1⟩
theorem sizB_bits {k b : Int} (h : sizB (k, b) = true) : 6 ≤ b ∧ b ≤ 40 := by
  rw [sizB_iff] at h; omega
noncomputable def C_rret : Cfg := ⟨Try.prog, [E_rvcap, E_rsiz, E_rlev], pmT [], 136, [], []⟩
theorem es_rret : EsOk Try.prog [E_rvcap, E_rsiz, E_rlev] [] := es_cons E_rvcap_ok (es_cons E_rsiz_ok (es_cons E_rlev_ok (es_nil)))
def Lt_rret : Nat → LD := ldT [(0, ⟨[.c 1 (.int .i64), .c 2 (.int .i64), .c 3 (.int .i64), .c 4 (.int .i64), .c 5 (.int .i64), .c 6 (.int .i64), .box 7 7 29 7 tSCp, .c 16 (.bool), .c 17 (.int .i64), .list 19 999 29 7 tSCp, .c 20 (.int .i64)], [], 0⟩)]
noncomputable def M_rret (f : Nat) (a : SCp × Int × Int × Int × Int × Int × Int) : Option ((List (SCp)) × Int) := (runX (C_rret) Lt_rret (Kret Try.prog [.tmp 14, .tmp 15] [.o 29 7 tSCp, .v (.int .i64)]) f [.code (bodyOf Try.f91)] (initX [.g tSCp, .c (.int .i64), .c (.int .i64), .c (.int .i64), .c (.int .i64), .c (.int .i64), .c (.int .i64)] a) : Option (ResT [.o 29 7 tSCp, .v (.int .i64)]))
noncomputable def L_rret_0 (f : Nat) (x : Int × Int × Int × Int × Int × Int × SCp × Bool × Int × (List (SCp)) × Int) : Option ((List (SCp)) × Int) := (runX (C_rret) Lt_rret (Kret Try.prog [.tmp 14, .tmp 15] [.o 29 7 tSCp, .v (.int .i64)]) f (headOf Try.f91 0) ((Lt_rret 0).mk' x) : Option (ResT [.o 29 7 tSCp, .v (.int .i64)]))
theorem M_rret_eq (f : Nat) (src : SCp) (object : Int) (bits : Int) (level : Int) (width : Int) (offset : Int) (count : Int) : M_rret (f + 1) (src, object, bits, level, width, offset, count) =
    bif !vcapB src then some ([], 5) else bif src.1 != 1 then some ([], 5) else bif IntKind.i64.wrap (↑(BitVec.ofInt IntKind.i64.bits src.2.2.2.1 &&& BitVec.ofInt IntKind.i64.bits 2).toNat : Int) == 0 then some ([], 8) else bif !sizB (object, bits) then some ([], 1) else bif object == 3 then bif !levB (width, level) then some ([], 1) else bif decide (count < 1) then some ([], 1) else bif decide (count > 8) then some ([], 1) else bif decide (offset < 0) then some ([], 1) else bif src.2.2.2.2.2.2 then bif object != 1 then bif object != 2 then some ([], 5) else bif decide (0 ≤ IntKind.u64.wrap bits) then bif decide (0 ≤ IntKind.u64.wrap src.2.2.1) then bif IntKind.i64.wrap (1 * 2 ^ min (IntKind.u64.wrap bits).toNat IntKind.i64.bits) != 0 then bif offset.tmod (IntKind.i64.wrap (1 * 2 ^ min (IntKind.u64.wrap bits).toNat IntKind.i64.bits)) != 0 then some ([], 6) else bif decide (offset > IntKind.i64.wrap (1 * 2 ^ min (IntKind.u64.wrap src.2.2.1).toNat IntKind.i64.bits)) then some ([], 6) else bif decide (IntKind.i64.wrap (count * IntKind.i64.wrap (1 * 2 ^ min (IntKind.u64.wrap bits).toNat IntKind.i64.bits)) > IntKind.i64.wrap (IntKind.i64.wrap (1 * 2 ^ min (IntKind.u64.wrap src.2.2.1).toNat IntKind.i64.bits) - offset)) then some ([], 6) else bif object == 1 then bif decide (bits ≥ src.2.2.1) then some ([], 6) else L_rret_0 f (object, bits, level, width, offset, count, src, object == 3, IntKind.i64.wrap (1 * 2 ^ min (IntKind.u64.wrap bits).toNat IntKind.i64.bits), [], 0) else L_rret_0 f (object, bits, level, width, offset, count, src, object == 3, IntKind.i64.wrap (1 * 2 ^ min (IntKind.u64.wrap bits).toNat IntKind.i64.bits), [], 0) else none else none else none else bif decide (0 ≤ IntKind.u64.wrap bits) then bif decide (0 ≤ IntKind.u64.wrap src.2.2.1) then bif IntKind.i64.wrap (1 * 2 ^ min (IntKind.u64.wrap bits).toNat IntKind.i64.bits) != 0 then bif offset.tmod (IntKind.i64.wrap (1 * 2 ^ min (IntKind.u64.wrap bits).toNat IntKind.i64.bits)) != 0 then some ([], 6) else bif decide (offset > IntKind.i64.wrap (1 * 2 ^ min (IntKind.u64.wrap src.2.2.1).toNat IntKind.i64.bits)) then some ([], 6) else bif decide (IntKind.i64.wrap (count * IntKind.i64.wrap (1 * 2 ^ min (IntKind.u64.wrap bits).toNat IntKind.i64.bits)) > IntKind.i64.wrap (IntKind.i64.wrap (1 * 2 ^ min (IntKind.u64.wrap src.2.2.1).toNat IntKind.i64.bits) - offset)) then some ([], 6) else bif object == 1 then bif decide (bits ≥ src.2.2.1) then some ([], 6) else L_rret_0 f (object, bits, level, width, offset, count, src, object == 3, IntKind.i64.wrap (1 * 2 ^ min (IntKind.u64.wrap bits).toNat IntKind.i64.bits), [], 0) else L_rret_0 f (object, bits, level, width, offset, count, src, object == 3, IntKind.i64.wrap (1 * 2 ^ min (IntKind.u64.wrap bits).toNat IntKind.i64.bits), [], 0) else none else none else none else bif decide (0 ≤ IntKind.u64.wrap bits) then bif decide (0 ≤ IntKind.u64.wrap src.2.2.1) then bif IntKind.i64.wrap (1 * 2 ^ min (IntKind.u64.wrap bits).toNat IntKind.i64.bits) != 0 then bif offset.tmod (IntKind.i64.wrap (1 * 2 ^ min (IntKind.u64.wrap bits).toNat IntKind.i64.bits)) != 0 then some ([], 6) else bif decide (offset > IntKind.i64.wrap (1 * 2 ^ min (IntKind.u64.wrap src.2.2.1).toNat IntKind.i64.bits)) then some ([], 6) else bif decide (IntKind.i64.wrap (count * IntKind.i64.wrap (1 * 2 ^ min (IntKind.u64.wrap bits).toNat IntKind.i64.bits)) > IntKind.i64.wrap (IntKind.i64.wrap (1 * 2 ^ min (IntKind.u64.wrap src.2.2.1).toNat IntKind.i64.bits) - offset)) then some ([], 6) else bif object == 1 then bif decide (bits ≥ src.2.2.1) then some ([], 6) else L_rret_0 f (object, bits, level, width, offset, count, src, object == 3, IntKind.i64.wrap (1 * 2 ^ min (IntKind.u64.wrap bits).toNat IntKind.i64.bits), [], 0) else L_rret_0 f (object, bits, level, width, offset, count, src, object == 3, IntKind.i64.wrap (1 * 2 ^ min (IntKind.u64.wrap bits).toNat IntKind.i64.bits), [], 0) else none else none else none else bif decide (count < 1) then some ([], 1) else bif decide (count > 8) then some ([], 1) else bif decide (offset < 0) then some ([], 1) else bif src.2.2.2.2.2.2 then bif object != 1 then bif object != 2 then some ([], 5) else bif decide (0 ≤ IntKind.u64.wrap bits) then bif decide (0 ≤ IntKind.u64.wrap src.2.2.1) then bif IntKind.i64.wrap (1 * 2 ^ min (IntKind.u64.wrap bits).toNat IntKind.i64.bits) != 0 then bif offset.tmod (IntKind.i64.wrap (1 * 2 ^ min (IntKind.u64.wrap bits).toNat IntKind.i64.bits)) != 0 then some ([], 6) else bif decide (offset > IntKind.i64.wrap (1 * 2 ^ min (IntKind.u64.wrap src.2.2.1).toNat IntKind.i64.bits)) then some ([], 6) else bif decide (IntKind.i64.wrap (count * IntKind.i64.wrap (1 * 2 ^ min (IntKind.u64.wrap bits).toNat IntKind.i64.bits)) > IntKind.i64.wrap (IntKind.i64.wrap (1 * 2 ^ min (IntKind.u64.wrap src.2.2.1).toNat IntKind.i64.bits) - offset)) then some ([], 6) else bif object == 1 then bif decide (bits ≥ src.2.2.1) then some ([], 6) else L_rret_0 f (object, bits, level, width, offset, count, src, object == 3, IntKind.i64.wrap (1 * 2 ^ min (IntKind.u64.wrap bits).toNat IntKind.i64.bits), [], 0) else L_rret_0 f (object, bits, level, width, offset, count, src, object == 3, IntKind.i64.wrap (1 * 2 ^ min (IntKind.u64.wrap bits).toNat IntKind.i64.bits), [], 0) else none else none else none else bif decide (0 ≤ IntKind.u64.wrap bits) then bif decide (0 ≤ IntKind.u64.wrap src.2.2.1) then bif IntKind.i64.wrap (1 * 2 ^ min (IntKind.u64.wrap bits).toNat IntKind.i64.bits) != 0 then bif offset.tmod (IntKind.i64.wrap (1 * 2 ^ min (IntKind.u64.wrap bits).toNat IntKind.i64.bits)) != 0 then some ([], 6) else bif decide (offset > IntKind.i64.wrap (1 * 2 ^ min (IntKind.u64.wrap src.2.2.1).toNat IntKind.i64.bits)) then some ([], 6) else bif decide (IntKind.i64.wrap (count * IntKind.i64.wrap (1 * 2 ^ min (IntKind.u64.wrap bits).toNat IntKind.i64.bits)) > IntKind.i64.wrap (IntKind.i64.wrap (1 * 2 ^ min (IntKind.u64.wrap src.2.2.1).toNat IntKind.i64.bits) - offset)) then some ([], 6) else bif object == 1 then bif decide (bits ≥ src.2.2.1) then some ([], 6) else L_rret_0 f (object, bits, level, width, offset, count, src, object == 3, IntKind.i64.wrap (1 * 2 ^ min (IntKind.u64.wrap bits).toNat IntKind.i64.bits), [], 0) else L_rret_0 f (object, bits, level, width, offset, count, src, object == 3, IntKind.i64.wrap (1 * 2 ^ min (IntKind.u64.wrap bits).toNat IntKind.i64.bits), [], 0) else none else none else none else bif decide (0 ≤ IntKind.u64.wrap bits) then bif decide (0 ≤ IntKind.u64.wrap src.2.2.1) then bif IntKind.i64.wrap (1 * 2 ^ min (IntKind.u64.wrap bits).toNat IntKind.i64.bits) != 0 then bif offset.tmod (IntKind.i64.wrap (1 * 2 ^ min (IntKind.u64.wrap bits).toNat IntKind.i64.bits)) != 0 then some ([], 6) else bif decide (offset > IntKind.i64.wrap (1 * 2 ^ min (IntKind.u64.wrap src.2.2.1).toNat IntKind.i64.bits)) then some ([], 6) else bif decide (IntKind.i64.wrap (count * IntKind.i64.wrap (1 * 2 ^ min (IntKind.u64.wrap bits).toNat IntKind.i64.bits)) > IntKind.i64.wrap (IntKind.i64.wrap (1 * 2 ^ min (IntKind.u64.wrap src.2.2.1).toNat IntKind.i64.bits) - offset)) then some ([], 6) else bif object == 1 then bif decide (bits ≥ src.2.2.1) then some ([], 6) else L_rret_0 f (object, bits, level, width, offset, count, src, object == 3, IntKind.i64.wrap (1 * 2 ^ min (IntKind.u64.wrap bits).toNat IntKind.i64.bits), [], 0) else L_rret_0 f (object, bits, level, width, offset, count, src, object == 3, IntKind.i64.wrap (1 * 2 ^ min (IntKind.u64.wrap bits).toNat IntKind.i64.bits), [], 0) else none else none else none := by kernel_rfl
theorem L_rret_0_eq (f : Nat) (object : Int) (bits : Int) (level : Int) (width : Int) (offset : Int) (count : Int) (src : SCp) (table : Bool) (size : Int) (out : List (SCp)) (i : Int) : L_rret_0 (f + 1) (object, bits, level, width, offset, count, src, table, size, out, i) =
    bif decide (i < count) then bif table then bif decide ((out.length + [(object, IntKind.i64.wrap (IntKind.i64.wrap (src.2.1 + offset) + IntKind.i64.wrap (i * size)), bits, src.2.2.2.1, width, level, src.2.2.2.2.2.2)].length) * 56 ≤ 140737488355328) then L_rret_0 f (object, bits, level, width, offset, count, src, table, size, out ++ [(object, IntKind.i64.wrap (IntKind.i64.wrap (src.2.1 + offset) + IntKind.i64.wrap (i * size)), bits, src.2.2.2.1, width, level, src.2.2.2.2.2.2)], IntKind.i64.wrap (i + 1)) else none else bif decide ((out.length + [(object, IntKind.i64.wrap (IntKind.i64.wrap (src.2.1 + offset) + IntKind.i64.wrap (i * size)), bits, src.2.2.2.1, 0, 0, src.2.2.2.2.2.2)].length) * 56 ≤ 140737488355328) then L_rret_0 f (object, bits, level, width, offset, count, src, table, size, out ++ [(object, IntKind.i64.wrap (IntKind.i64.wrap (src.2.1 + offset) + IntKind.i64.wrap (i * size)), bits, src.2.2.2.1, 0, 0, src.2.2.2.2.2.2)], IntKind.i64.wrap (i + 1)) else none else some (out, 0) := by kernel_rfl
noncomputable def F_rret_0 : Nat → (Int × Int × Int × Int × Int × Int × SCp × Bool × Int × (List (SCp)) × Nat) → (List (SCp)) × Int
  | 0, (object, bits, level, width, offset, count, src, table, size, out, i) => (out, 0)
  | rest + 1, (object, bits, level, width, offset, count, src, table, size, out, i) => bif table then F_rret_0 rest (object, bits, level, width, offset, count, src, table, size, out ++ [(object, IntKind.i64.wrap (IntKind.i64.wrap (src.2.1 + offset) + IntKind.i64.wrap ((↑i : Int) * size)), bits, src.2.2.2.1, width, level, src.2.2.2.2.2.2)], i + 1) else F_rret_0 rest (object, bits, level, width, offset, count, src, table, size, out ++ [(object, IntKind.i64.wrap (IntKind.i64.wrap (src.2.1 + offset) + IntKind.i64.wrap ((↑i : Int) * size)), bits, src.2.2.2.1, 0, 0, src.2.2.2.2.2.2)], i + 1)
noncomputable def P_rret_0 : Nat → (Int × Int × Int × Int × Int × Int × SCp × Bool × Int × (List (SCp)) × Nat) → Bool
  | 0, (object, bits, level, width, offset, count, src, table, size, out, i) => true
  | rest + 1, (object, bits, level, width, offset, count, src, table, size, out, i) => bif table then decide ((out.length + [(object, IntKind.i64.wrap (IntKind.i64.wrap (src.2.1 + offset) + IntKind.i64.wrap ((↑i : Int) * size)), bits, src.2.2.2.1, width, level, src.2.2.2.2.2.2)].length) * 56 ≤ 140737488355328) && P_rret_0 rest (object, bits, level, width, offset, count, src, table, size, out ++ [(object, IntKind.i64.wrap (IntKind.i64.wrap (src.2.1 + offset) + IntKind.i64.wrap ((↑i : Int) * size)), bits, src.2.2.2.1, width, level, src.2.2.2.2.2.2)], i + 1) else decide ((out.length + [(object, IntKind.i64.wrap (IntKind.i64.wrap (src.2.1 + offset) + IntKind.i64.wrap ((↑i : Int) * size)), bits, src.2.2.2.1, 0, 0, src.2.2.2.2.2.2)].length) * 56 ≤ 140737488355328) && P_rret_0 rest (object, bits, level, width, offset, count, src, table, size, out ++ [(object, IntKind.i64.wrap (IntKind.i64.wrap (src.2.1 + offset) + IntKind.i64.wrap ((↑i : Int) * size)), bits, src.2.2.2.1, 0, 0, src.2.2.2.2.2.2)], i + 1)
theorem A_rret_0 : ∀ (rest : Nat) (object : Int) (bits : Int) (level : Int) (width : Int) (offset : Int) (count : Int) (src : SCp) (table : Bool) (size : Int) (out : List (SCp)) (i : Nat) (hd : ((count : Int) - ((i : Nat) : Int)).toNat = rest) (hl : (count : Int) ≤ 1099511627776), Rns (fun f => L_rret_0 f (object, bits, level, width, offset, count, src, table, size, out, ((i : Nat) : Int))) (P_rret_0 rest (object, bits, level, width, offset, count, src, table, size, out, i)) (F_rret_0 rest (object, bits, level, width, offset, count, src, table, size, out, i))
  | 0, object, bits, level, width, offset, count, src, table, size, out, i, hd, hl => ev_step (T := fun f => some (out, 0)) (fun f => (L_rret_0_eq f _ _ _ _ _ _ _ _ _ _ _).trans (by simp only [cnt_ge hd, ge0, Bool.and_self, Bool.true_and, cond_true, cond_false, List.length_set] <;> rfl)) ev_some
  | rest + 1, object, bits, level, width, offset, count, src, table, size, out, i, hd, hl => ev_step (T := fun f => bif table then bif decide ((out.length + [(object, IntKind.i64.wrap (IntKind.i64.wrap (src.2.1 + offset) + IntKind.i64.wrap ((↑i : Int) * size)), bits, src.2.2.2.1, width, level, src.2.2.2.2.2.2)].length) * 56 ≤ 140737488355328) then L_rret_0 f (object, bits, level, width, offset, count, src, table, size, out ++ [(object, IntKind.i64.wrap (IntKind.i64.wrap (src.2.1 + offset) + IntKind.i64.wrap ((↑i : Int) * size)), bits, src.2.2.2.1, width, level, src.2.2.2.2.2.2)], (↑(i + 1) : Int)) else none else bif decide ((out.length + [(object, IntKind.i64.wrap (IntKind.i64.wrap (src.2.1 + offset) + IntKind.i64.wrap ((↑i : Int) * size)), bits, src.2.2.2.1, 0, 0, src.2.2.2.2.2.2)].length) * 56 ≤ 140737488355328) then L_rret_0 f (object, bits, level, width, offset, count, src, table, size, out ++ [(object, IntKind.i64.wrap (IntKind.i64.wrap (src.2.1 + offset) + IntKind.i64.wrap ((↑i : Int) * size)), bits, src.2.2.2.1, 0, 0, src.2.2.2.2.2.2)], (↑(i + 1) : Int)) else none) (fun f => (L_rret_0_eq f _ _ _ _ _ _ _ _ _ _ _).trans (by simp only [cnt_lt hd, cnt_wrap hd hl, ge0, Bool.and_self, Bool.true_and, cond_true, cond_false, List.length_set] <;> rfl)) (ev_bif (ev_chk (A_rret_0 rest _ _ _ _ _ _ _ _ _ _ _ (cnt_succ hd) (by first | exact hl | simpa using hl))) (ev_chk (A_rret_0 rest _ _ _ _ _ _ _ _ _ _ _ (cnt_succ hd) (by first | exact hl | simpa using hl))))
noncomputable def F_rret : (SCp × Int × Int × Int × Int × Int × Int) → (List (SCp)) × Int
  | (src, object, bits, level, width, offset, count) => bif !vcapB src then ([], 5) else bif src.1 != 1 then ([], 5) else bif IntKind.i64.wrap (↑(BitVec.ofInt IntKind.i64.bits src.2.2.2.1 &&& BitVec.ofInt IntKind.i64.bits 2).toNat : Int) == 0 then ([], 8) else bif !sizB (object, bits) then ([], 1) else bif object == 3 then bif !levB (width, level) then ([], 1) else bif decide (count < 1) then ([], 1) else bif decide (count > 8) then ([], 1) else bif decide (offset < 0) then ([], 1) else bif src.2.2.2.2.2.2 then bif object != 1 then bif object != 2 then ([], 5) else bif offset.tmod (IntKind.i64.wrap (1 * 2 ^ min (IntKind.u64.wrap bits).toNat IntKind.i64.bits)) != 0 then ([], 6) else bif decide (offset > IntKind.i64.wrap (1 * 2 ^ min (IntKind.u64.wrap src.2.2.1).toNat IntKind.i64.bits)) then ([], 6) else bif decide (IntKind.i64.wrap (count * IntKind.i64.wrap (1 * 2 ^ min (IntKind.u64.wrap bits).toNat IntKind.i64.bits)) > IntKind.i64.wrap (IntKind.i64.wrap (1 * 2 ^ min (IntKind.u64.wrap src.2.2.1).toNat IntKind.i64.bits) - offset)) then ([], 6) else bif object == 1 then bif decide (bits ≥ src.2.2.1) then ([], 6) else F_rret_0 (count - (↑0 : Int)).toNat (object, bits, level, width, offset, count, src, object == 3, IntKind.i64.wrap (1 * 2 ^ min (IntKind.u64.wrap bits).toNat IntKind.i64.bits), [], 0) else F_rret_0 (count - (↑0 : Int)).toNat (object, bits, level, width, offset, count, src, object == 3, IntKind.i64.wrap (1 * 2 ^ min (IntKind.u64.wrap bits).toNat IntKind.i64.bits), [], 0) else bif offset.tmod (IntKind.i64.wrap (1 * 2 ^ min (IntKind.u64.wrap bits).toNat IntKind.i64.bits)) != 0 then ([], 6) else bif decide (offset > IntKind.i64.wrap (1 * 2 ^ min (IntKind.u64.wrap src.2.2.1).toNat IntKind.i64.bits)) then ([], 6) else bif decide (IntKind.i64.wrap (count * IntKind.i64.wrap (1 * 2 ^ min (IntKind.u64.wrap bits).toNat IntKind.i64.bits)) > IntKind.i64.wrap (IntKind.i64.wrap (1 * 2 ^ min (IntKind.u64.wrap src.2.2.1).toNat IntKind.i64.bits) - offset)) then ([], 6) else bif object == 1 then bif decide (bits ≥ src.2.2.1) then ([], 6) else F_rret_0 (count - (↑0 : Int)).toNat (object, bits, level, width, offset, count, src, object == 3, IntKind.i64.wrap (1 * 2 ^ min (IntKind.u64.wrap bits).toNat IntKind.i64.bits), [], 0) else F_rret_0 (count - (↑0 : Int)).toNat (object, bits, level, width, offset, count, src, object == 3, IntKind.i64.wrap (1 * 2 ^ min (IntKind.u64.wrap bits).toNat IntKind.i64.bits), [], 0) else bif offset.tmod (IntKind.i64.wrap (1 * 2 ^ min (IntKind.u64.wrap bits).toNat IntKind.i64.bits)) != 0 then ([], 6) else bif decide (offset > IntKind.i64.wrap (1 * 2 ^ min (IntKind.u64.wrap src.2.2.1).toNat IntKind.i64.bits)) then ([], 6) else bif decide (IntKind.i64.wrap (count * IntKind.i64.wrap (1 * 2 ^ min (IntKind.u64.wrap bits).toNat IntKind.i64.bits)) > IntKind.i64.wrap (IntKind.i64.wrap (1 * 2 ^ min (IntKind.u64.wrap src.2.2.1).toNat IntKind.i64.bits) - offset)) then ([], 6) else bif object == 1 then bif decide (bits ≥ src.2.2.1) then ([], 6) else F_rret_0 (count - (↑0 : Int)).toNat (object, bits, level, width, offset, count, src, object == 3, IntKind.i64.wrap (1 * 2 ^ min (IntKind.u64.wrap bits).toNat IntKind.i64.bits), [], 0) else F_rret_0 (count - (↑0 : Int)).toNat (object, bits, level, width, offset, count, src, object == 3, IntKind.i64.wrap (1 * 2 ^ min (IntKind.u64.wrap bits).toNat IntKind.i64.bits), [], 0) else bif decide (count < 1) then ([], 1) else bif decide (count > 8) then ([], 1) else bif decide (offset < 0) then ([], 1) else bif src.2.2.2.2.2.2 then bif object != 1 then bif object != 2 then ([], 5) else bif offset.tmod (IntKind.i64.wrap (1 * 2 ^ min (IntKind.u64.wrap bits).toNat IntKind.i64.bits)) != 0 then ([], 6) else bif decide (offset > IntKind.i64.wrap (1 * 2 ^ min (IntKind.u64.wrap src.2.2.1).toNat IntKind.i64.bits)) then ([], 6) else bif decide (IntKind.i64.wrap (count * IntKind.i64.wrap (1 * 2 ^ min (IntKind.u64.wrap bits).toNat IntKind.i64.bits)) > IntKind.i64.wrap (IntKind.i64.wrap (1 * 2 ^ min (IntKind.u64.wrap src.2.2.1).toNat IntKind.i64.bits) - offset)) then ([], 6) else bif object == 1 then bif decide (bits ≥ src.2.2.1) then ([], 6) else F_rret_0 (count - (↑0 : Int)).toNat (object, bits, level, width, offset, count, src, object == 3, IntKind.i64.wrap (1 * 2 ^ min (IntKind.u64.wrap bits).toNat IntKind.i64.bits), [], 0) else F_rret_0 (count - (↑0 : Int)).toNat (object, bits, level, width, offset, count, src, object == 3, IntKind.i64.wrap (1 * 2 ^ min (IntKind.u64.wrap bits).toNat IntKind.i64.bits), [], 0) else bif offset.tmod (IntKind.i64.wrap (1 * 2 ^ min (IntKind.u64.wrap bits).toNat IntKind.i64.bits)) != 0 then ([], 6) else bif decide (offset > IntKind.i64.wrap (1 * 2 ^ min (IntKind.u64.wrap src.2.2.1).toNat IntKind.i64.bits)) then ([], 6) else bif decide (IntKind.i64.wrap (count * IntKind.i64.wrap (1 * 2 ^ min (IntKind.u64.wrap bits).toNat IntKind.i64.bits)) > IntKind.i64.wrap (IntKind.i64.wrap (1 * 2 ^ min (IntKind.u64.wrap src.2.2.1).toNat IntKind.i64.bits) - offset)) then ([], 6) else bif object == 1 then bif decide (bits ≥ src.2.2.1) then ([], 6) else F_rret_0 (count - (↑0 : Int)).toNat (object, bits, level, width, offset, count, src, object == 3, IntKind.i64.wrap (1 * 2 ^ min (IntKind.u64.wrap bits).toNat IntKind.i64.bits), [], 0) else F_rret_0 (count - (↑0 : Int)).toNat (object, bits, level, width, offset, count, src, object == 3, IntKind.i64.wrap (1 * 2 ^ min (IntKind.u64.wrap bits).toNat IntKind.i64.bits), [], 0) else bif offset.tmod (IntKind.i64.wrap (1 * 2 ^ min (IntKind.u64.wrap bits).toNat IntKind.i64.bits)) != 0 then ([], 6) else bif decide (offset > IntKind.i64.wrap (1 * 2 ^ min (IntKind.u64.wrap src.2.2.1).toNat IntKind.i64.bits)) then ([], 6) else bif decide (IntKind.i64.wrap (count * IntKind.i64.wrap (1 * 2 ^ min (IntKind.u64.wrap bits).toNat IntKind.i64.bits)) > IntKind.i64.wrap (IntKind.i64.wrap (1 * 2 ^ min (IntKind.u64.wrap src.2.2.1).toNat IntKind.i64.bits) - offset)) then ([], 6) else bif object == 1 then bif decide (bits ≥ src.2.2.1) then ([], 6) else F_rret_0 (count - (↑0 : Int)).toNat (object, bits, level, width, offset, count, src, object == 3, IntKind.i64.wrap (1 * 2 ^ min (IntKind.u64.wrap bits).toNat IntKind.i64.bits), [], 0) else F_rret_0 (count - (↑0 : Int)).toNat (object, bits, level, width, offset, count, src, object == 3, IntKind.i64.wrap (1 * 2 ^ min (IntKind.u64.wrap bits).toNat IntKind.i64.bits), [], 0)
noncomputable def P_rret : (SCp × Int × Int × Int × Int × Int × Int) → Bool
  | (src, object, bits, level, width, offset, count) => bif !vcapB src then true else bif src.1 != 1 then true else bif IntKind.i64.wrap (↑(BitVec.ofInt IntKind.i64.bits src.2.2.2.1 &&& BitVec.ofInt IntKind.i64.bits 2).toNat : Int) == 0 then true else bif !sizB (object, bits) then true else bif object == 3 then bif !levB (width, level) then true else bif decide (count < 1) then true else bif decide (count > 8) then true else bif decide (offset < 0) then true else bif src.2.2.2.2.2.2 then bif object != 1 then bif object != 2 then true else decide (0 ≤ IntKind.u64.wrap bits) && (decide (0 ≤ IntKind.u64.wrap src.2.2.1) && (IntKind.i64.wrap (1 * 2 ^ min (IntKind.u64.wrap bits).toNat IntKind.i64.bits) != 0 && bif offset.tmod (IntKind.i64.wrap (1 * 2 ^ min (IntKind.u64.wrap bits).toNat IntKind.i64.bits)) != 0 then true else bif decide (offset > IntKind.i64.wrap (1 * 2 ^ min (IntKind.u64.wrap src.2.2.1).toNat IntKind.i64.bits)) then true else bif decide (IntKind.i64.wrap (count * IntKind.i64.wrap (1 * 2 ^ min (IntKind.u64.wrap bits).toNat IntKind.i64.bits)) > IntKind.i64.wrap (IntKind.i64.wrap (1 * 2 ^ min (IntKind.u64.wrap src.2.2.1).toNat IntKind.i64.bits) - offset)) then true else bif object == 1 then bif decide (bits ≥ src.2.2.1) then true else decide (count ≤ 1099511627776) && P_rret_0 (count - (↑0 : Int)).toNat (object, bits, level, width, offset, count, src, object == 3, IntKind.i64.wrap (1 * 2 ^ min (IntKind.u64.wrap bits).toNat IntKind.i64.bits), [], 0) else decide (count ≤ 1099511627776) && P_rret_0 (count - (↑0 : Int)).toNat (object, bits, level, width, offset, count, src, object == 3, IntKind.i64.wrap (1 * 2 ^ min (IntKind.u64.wrap bits).toNat IntKind.i64.bits), [], 0))) else decide (0 ≤ IntKind.u64.wrap bits) && (decide (0 ≤ IntKind.u64.wrap src.2.2.1) && (IntKind.i64.wrap (1 * 2 ^ min (IntKind.u64.wrap bits).toNat IntKind.i64.bits) != 0 && bif offset.tmod (IntKind.i64.wrap (1 * 2 ^ min (IntKind.u64.wrap bits).toNat IntKind.i64.bits)) != 0 then true else bif decide (offset > IntKind.i64.wrap (1 * 2 ^ min (IntKind.u64.wrap src.2.2.1).toNat IntKind.i64.bits)) then true else bif decide (IntKind.i64.wrap (count * IntKind.i64.wrap (1 * 2 ^ min (IntKind.u64.wrap bits).toNat IntKind.i64.bits)) > IntKind.i64.wrap (IntKind.i64.wrap (1 * 2 ^ min (IntKind.u64.wrap src.2.2.1).toNat IntKind.i64.bits) - offset)) then true else bif object == 1 then bif decide (bits ≥ src.2.2.1) then true else decide (count ≤ 1099511627776) && P_rret_0 (count - (↑0 : Int)).toNat (object, bits, level, width, offset, count, src, object == 3, IntKind.i64.wrap (1 * 2 ^ min (IntKind.u64.wrap bits).toNat IntKind.i64.bits), [], 0) else decide (count ≤ 1099511627776) && P_rret_0 (count - (↑0 : Int)).toNat (object, bits, level, width, offset, count, src, object == 3, IntKind.i64.wrap (1 * 2 ^ min (IntKind.u64.wrap bits).toNat IntKind.i64.bits), [], 0))) else decide (0 ≤ IntKind.u64.wrap bits) && (decide (0 ≤ IntKind.u64.wrap src.2.2.1) && (IntKind.i64.wrap (1 * 2 ^ min (IntKind.u64.wrap bits).toNat IntKind.i64.bits) != 0 && bif offset.tmod (IntKind.i64.wrap (1 * 2 ^ min (IntKind.u64.wrap bits).toNat IntKind.i64.bits)) != 0 then true else bif decide (offset > IntKind.i64.wrap (1 * 2 ^ min (IntKind.u64.wrap src.2.2.1).toNat IntKind.i64.bits)) then true else bif decide (IntKind.i64.wrap (count * IntKind.i64.wrap (1 * 2 ^ min (IntKind.u64.wrap bits).toNat IntKind.i64.bits)) > IntKind.i64.wrap (IntKind.i64.wrap (1 * 2 ^ min (IntKind.u64.wrap src.2.2.1).toNat IntKind.i64.bits) - offset)) then true else bif object == 1 then bif decide (bits ≥ src.2.2.1) then true else decide (count ≤ 1099511627776) && P_rret_0 (count - (↑0 : Int)).toNat (object, bits, level, width, offset, count, src, object == 3, IntKind.i64.wrap (1 * 2 ^ min (IntKind.u64.wrap bits).toNat IntKind.i64.bits), [], 0) else decide (count ≤ 1099511627776) && P_rret_0 (count - (↑0 : Int)).toNat (object, bits, level, width, offset, count, src, object == 3, IntKind.i64.wrap (1 * 2 ^ min (IntKind.u64.wrap bits).toNat IntKind.i64.bits), [], 0))) else bif decide (count < 1) then true else bif decide (count > 8) then true else bif decide (offset < 0) then true else bif src.2.2.2.2.2.2 then bif object != 1 then bif object != 2 then true else decide (0 ≤ IntKind.u64.wrap bits) && (decide (0 ≤ IntKind.u64.wrap src.2.2.1) && (IntKind.i64.wrap (1 * 2 ^ min (IntKind.u64.wrap bits).toNat IntKind.i64.bits) != 0 && bif offset.tmod (IntKind.i64.wrap (1 * 2 ^ min (IntKind.u64.wrap bits).toNat IntKind.i64.bits)) != 0 then true else bif decide (offset > IntKind.i64.wrap (1 * 2 ^ min (IntKind.u64.wrap src.2.2.1).toNat IntKind.i64.bits)) then true else bif decide (IntKind.i64.wrap (count * IntKind.i64.wrap (1 * 2 ^ min (IntKind.u64.wrap bits).toNat IntKind.i64.bits)) > IntKind.i64.wrap (IntKind.i64.wrap (1 * 2 ^ min (IntKind.u64.wrap src.2.2.1).toNat IntKind.i64.bits) - offset)) then true else bif object == 1 then bif decide (bits ≥ src.2.2.1) then true else decide (count ≤ 1099511627776) && P_rret_0 (count - (↑0 : Int)).toNat (object, bits, level, width, offset, count, src, object == 3, IntKind.i64.wrap (1 * 2 ^ min (IntKind.u64.wrap bits).toNat IntKind.i64.bits), [], 0) else decide (count ≤ 1099511627776) && P_rret_0 (count - (↑0 : Int)).toNat (object, bits, level, width, offset, count, src, object == 3, IntKind.i64.wrap (1 * 2 ^ min (IntKind.u64.wrap bits).toNat IntKind.i64.bits), [], 0))) else decide (0 ≤ IntKind.u64.wrap bits) && (decide (0 ≤ IntKind.u64.wrap src.2.2.1) && (IntKind.i64.wrap (1 * 2 ^ min (IntKind.u64.wrap bits).toNat IntKind.i64.bits) != 0 && bif offset.tmod (IntKind.i64.wrap (1 * 2 ^ min (IntKind.u64.wrap bits).toNat IntKind.i64.bits)) != 0 then true else bif decide (offset > IntKind.i64.wrap (1 * 2 ^ min (IntKind.u64.wrap src.2.2.1).toNat IntKind.i64.bits)) then true else bif decide (IntKind.i64.wrap (count * IntKind.i64.wrap (1 * 2 ^ min (IntKind.u64.wrap bits).toNat IntKind.i64.bits)) > IntKind.i64.wrap (IntKind.i64.wrap (1 * 2 ^ min (IntKind.u64.wrap src.2.2.1).toNat IntKind.i64.bits) - offset)) then true else bif object == 1 then bif decide (bits ≥ src.2.2.1) then true else decide (count ≤ 1099511627776) && P_rret_0 (count - (↑0 : Int)).toNat (object, bits, level, width, offset, count, src, object == 3, IntKind.i64.wrap (1 * 2 ^ min (IntKind.u64.wrap bits).toNat IntKind.i64.bits), [], 0) else decide (count ≤ 1099511627776) && P_rret_0 (count - (↑0 : Int)).toNat (object, bits, level, width, offset, count, src, object == 3, IntKind.i64.wrap (1 * 2 ^ min (IntKind.u64.wrap bits).toNat IntKind.i64.bits), [], 0))) else decide (0 ≤ IntKind.u64.wrap bits) && (decide (0 ≤ IntKind.u64.wrap src.2.2.1) && (IntKind.i64.wrap (1 * 2 ^ min (IntKind.u64.wrap bits).toNat IntKind.i64.bits) != 0 && bif offset.tmod (IntKind.i64.wrap (1 * 2 ^ min (IntKind.u64.wrap bits).toNat IntKind.i64.bits)) != 0 then true else bif decide (offset > IntKind.i64.wrap (1 * 2 ^ min (IntKind.u64.wrap src.2.2.1).toNat IntKind.i64.bits)) then true else bif decide (IntKind.i64.wrap (count * IntKind.i64.wrap (1 * 2 ^ min (IntKind.u64.wrap bits).toNat IntKind.i64.bits)) > IntKind.i64.wrap (IntKind.i64.wrap (1 * 2 ^ min (IntKind.u64.wrap src.2.2.1).toNat IntKind.i64.bits) - offset)) then true else bif object == 1 then bif decide (bits ≥ src.2.2.1) then true else decide (count ≤ 1099511627776) && P_rret_0 (count - (↑0 : Int)).toNat (object, bits, level, width, offset, count, src, object == 3, IntKind.i64.wrap (1 * 2 ^ min (IntKind.u64.wrap bits).toNat IntKind.i64.bits), [], 0) else decide (count ≤ 1099511627776) && P_rret_0 (count - (↑0 : Int)).toNat (object, bits, level, width, offset, count, src, object == 3, IntKind.i64.wrap (1 * 2 ^ min (IntKind.u64.wrap bits).toNat IntKind.i64.bits), [], 0)))
theorem rret_auto : ∀ a : SCp × Int × Int × Int × Int × Int × Int, Rns (fun f => M_rret f a) (P_rret a) (F_rret a)
  | (src, object, bits, level, width, offset, count) => ev_step (fun f => M_rret_eq f _ _ _ _ _ _ _) (ev_bif ev_some (ev_bif ev_some (ev_bif ev_some (ev_bif ev_some (ev_bif (ev_bif ev_some (ev_bif ev_some (ev_bif ev_some (ev_bif ev_some (ev_bif (ev_bif (ev_bif ev_some (ev_chk (ev_chk (ev_chk (ev_bif ev_some (ev_bif ev_some (ev_bif ev_some (ev_bif (ev_bif ev_some (ev_and fun hh => A_rret_0 _ _ _ _ _ _ _ _ _ _ _ _ rfl (of_decide_eq_true hh))) (ev_and fun hh => A_rret_0 _ _ _ _ _ _ _ _ _ _ _ _ rfl (of_decide_eq_true hh)))))))))) (ev_chk (ev_chk (ev_chk (ev_bif ev_some (ev_bif ev_some (ev_bif ev_some (ev_bif (ev_bif ev_some (ev_and fun hh => A_rret_0 _ _ _ _ _ _ _ _ _ _ _ _ rfl (of_decide_eq_true hh))) (ev_and fun hh => A_rret_0 _ _ _ _ _ _ _ _ _ _ _ _ rfl (of_decide_eq_true hh)))))))))) (ev_chk (ev_chk (ev_chk (ev_bif ev_some (ev_bif ev_some (ev_bif ev_some (ev_bif (ev_bif ev_some (ev_and fun hh => A_rret_0 _ _ _ _ _ _ _ _ _ _ _ _ rfl (of_decide_eq_true hh))) (ev_and fun hh => A_rret_0 _ _ _ _ _ _ _ _ _ _ _ _ rfl (of_decide_eq_true hh)))))))))))))) (ev_bif ev_some (ev_bif ev_some (ev_bif ev_some (ev_bif (ev_bif (ev_bif ev_some (ev_chk (ev_chk (ev_chk (ev_bif ev_some (ev_bif ev_some (ev_bif ev_some (ev_bif (ev_bif ev_some (ev_and fun hh => A_rret_0 _ _ _ _ _ _ _ _ _ _ _ _ rfl (of_decide_eq_true hh))) (ev_and fun hh => A_rret_0 _ _ _ _ _ _ _ _ _ _ _ _ rfl (of_decide_eq_true hh)))))))))) (ev_chk (ev_chk (ev_chk (ev_bif ev_some (ev_bif ev_some (ev_bif ev_some (ev_bif (ev_bif ev_some (ev_and fun hh => A_rret_0 _ _ _ _ _ _ _ _ _ _ _ _ rfl (of_decide_eq_true hh))) (ev_and fun hh => A_rret_0 _ _ _ _ _ _ _ _ _ _ _ _ rfl (of_decide_eq_true hh)))))))))) (ev_chk (ev_chk (ev_chk (ev_bif ev_some (ev_bif ev_some (ev_bif ev_some (ev_bif (ev_bif ev_some (ev_and fun hh => A_rret_0 _ _ _ _ _ _ _ _ _ _ _ _ rfl (of_decide_eq_true hh))) (ev_and fun hh => A_rret_0 _ _ _ _ _ _ _ _ _ _ _ _ rfl (of_decide_eq_true hh))))))))))))))))))
theorem rret_0 (src : SCp) (ob bits lev wid off cnt : Int) (tb : Bool) (h0 : 0 ≤ src.2.1) (h1 : 0 ≤ off) : ∀ (m k : Nat) (out : List SCp), src.2.1 + off + ((k + m : Nat) : Int) * p2 bits ≤ 4611686018427387904 → out.length + m ≤ 1000 →
    F_rret_0 m (ob, bits, lev, wid, off, cnt, src, tb, p2 bits, out, k) = (out ++ retCaps src ob bits (bif tb then wid else 0) (bif tb then lev else 0) off m k, 0) ∧ P_rret_0 m (ob, bits, lev, wid, off, cnt, src, tb, p2 bits, out, k) = true
  | 0, k, out, hs, hl => ⟨by simp [F_rret_0, retCaps], rfl⟩
  | m + 1, k, out, hs, hl => by
    have hp := p2_pos bits
    have e1 : ((k + (m + 1) : Nat) : Int) * p2 bits = ((k : Nat) : Int) * p2 bits + (((m : Nat) : Int) + 1) * p2 bits := by rw [← Int.add_mul]; congr 1
    have e2 : 0 ≤ ((k : Nat) : Int) * p2 bits := Int.mul_nonneg (by omega) (by omega)
    have e3 : 0 ≤ (((m : Nat) : Int) + 1) * p2 bits := Int.mul_nonneg (by omega) (by omega)
    have w1 : IntKind.i64.wrap (((k : Nat) : Int) * p2 bits) = ((k : Nat) : Int) * p2 bits := i64_id (by omega) (by omega)
    have w2 : IntKind.i64.wrap (src.2.1 + off) = src.2.1 + off := i64_id (by omega) (by omega)
    have w3 : IntKind.i64.wrap (src.2.1 + off + ((k : Nat) : Int) * p2 bits) = src.2.1 + off + ((k : Nat) : Int) * p2 bits := i64_id (by omega) (by omega)
    have ih := fun x => rret_0 src ob bits lev wid off cnt tb h0 h1 m (k + 1) (out ++ [x]) (by rw [show k + 1 + m = k + (m + 1) by omega]; exact hs) (by simp; omega)
    have hd : ∀ x : SCp, decide ((out.length + [x].length) * 56 ≤ 140737488355328) = true := fun x => decide_eq_true (by simp; omega)
    simp only [F_rret_0, P_rret_0, w1, w2, w3, (ih _).1, (ih _).2, hd]
    cases tb
    · exact ⟨by simp only [retCaps, cond_false, List.append_assoc, List.singleton_append], by simp <;> omega⟩
    · exact ⟨by simp only [retCaps, cond_true, List.append_assoc, List.singleton_append], by simp <;> omega⟩
theorem rret_main (src : SCp) (ob bits lev wid off cnt : Int) : F_rret (src, ob, bits, lev, wid, off, cnt) = retS (src, ob, bits, lev, wid, off, cnt) ∧ P_rret (src, ob, bits, lev, wid, off, cnt) = true := by
  simp only [F_rret, P_rret, retS, and2, beqI, bneI]
  cases hv : vcapB src
  · exact ⟨rfl, rfl⟩
  by_cases h1 : src.1 = 1
  case neg => simp only [decide_eq_false h1]; exact ⟨rfl, rfl⟩
  simp only [decide_eq_true h1, Bool.not_true, cond_false, Bool.or_self]
  cases decide (IntKind.i64.wrap (((BitVec.ofInt IntKind.i64.bits src.2.2.2.1 &&& BitVec.ofInt IntKind.i64.bits 2).toNat : Nat) : Int) = 0)
  case true => exact ⟨rfl, rfl⟩
  cases hs : sizB (ob, bits)
  · exact ⟨rfl, rfl⟩
  obtain ⟨b1, b2⟩ := sizB_bits hs
  obtain ⟨c1, c2, c3⟩ := vcapB_bits hv
  obtain ⟨_, _, d1, _, d2⟩ := valid_elim c3
  dsimp only at d1 d2
  have u1 : IntKind.u64.wrap bits = bits := u64_id (by omega) (by omega)
  have u2 : IntKind.u64.wrap src.2.2.1 = src.2.2.1 := u64_id (by omega) (by omega)
  have s1 := sh1 (k := bits) (by omega) (by omega)
  have s2 := sh1 (k := src.2.2.1) (by omega) (by omega)
  have q1 := p2_pos bits
  have q2 := p2_le40 b2
  have q3 := p2_pos src.2.2.1
  have q4 := p2_le40 c2
  simp only [u1, u2, s1, s2, Bool.not_true, cond_false, Bool.false_or, decide_eq_true (show (0 : Int) ≤ bits by omega), decide_eq_true (show (0 : Int) ≤ src.2.2.1 by omega), decide_eq_false (show ¬ p2 bits = 0 by omega), Bool.not_false, Bool.true_and]
  cases hl : (decide (ob = 3) && !levB (wid, lev))
  case true =>
    simp only [Bool.and_eq_true, Bool.not_eq_true'] at hl
    simp only [hl.1, hl.2]; exact ⟨rfl, rfl⟩
  have key : ∀ (α : Type) (x y : α), (bif decide (ob = 3) then bif !levB (wid, lev) then x else y else y) = y := by
    intro α x y
    cases hd : decide (ob = 3)
    · rfl
    · rw [hd] at hl; simp only [Bool.true_and] at hl; rw [hl]; rfl
  simp only [key, Bool.false_or]
  by_cases h2 : cnt < 1
  · simp only [decide_eq_true h2]; exact ⟨rfl, rfl⟩
  by_cases h3 : cnt > 8
  · simp only [decide_eq_false h2, decide_eq_true h3]; exact ⟨rfl, rfl⟩
  by_cases h4 : off < 0
  · simp only [decide_eq_false h2, decide_eq_false h3, decide_eq_true h4]; exact ⟨rfl, rfl⟩
  simp only [decide_eq_false h2, decide_eq_false h3, decide_eq_false h4, cond_false, Bool.or_self]
  have m1 : cnt * p2 bits ≤ 8 * p2 bits := Int.mul_le_mul_of_nonneg_right (by omega) (by omega)
  have m2 : 0 ≤ cnt * p2 bits := Int.mul_nonneg (by omega) (by omega)
  have w1 : IntKind.i64.wrap (cnt * p2 bits) = cnt * p2 bits := i64_id (by omega) (by omega)
  have body : (bif !decide (Int.tmod off (p2 bits) = 0) then (([], 6) : List SCp × Int)
      else bif decide (off > p2 src.2.2.1) then ([], 6)
      else bif decide (IntKind.i64.wrap (cnt * p2 bits) > IntKind.i64.wrap (p2 src.2.2.1 - off)) then ([], 6)
      else bif decide (ob = 1) then bif decide (bits ≥ src.2.2.1) then ([], 6) else F_rret_0 (cnt - ((0 : Nat) : Int)).toNat (ob, bits, lev, wid, off, cnt, src, decide (ob = 3), p2 bits, [], 0)
      else F_rret_0 (cnt - ((0 : Nat) : Int)).toNat (ob, bits, lev, wid, off, cnt, src, decide (ob = 3), p2 bits, [], 0)) =
      (bif !decide (Int.tmod off (p2 bits) = 0) || (decide (off > p2 src.2.2.1) || (decide (cnt * p2 bits > p2 src.2.2.1 - off) || decide (ob = 1) && decide (bits ≥ src.2.2.1))) then ([], 6)
      else (retCaps src ob bits (bif decide (ob = 3) then wid else 0) (bif decide (ob = 3) then lev else 0) off cnt.toNat 0, 0)) ∧
      (bif !decide (Int.tmod off (p2 bits) = 0) then true
      else bif decide (off > p2 src.2.2.1) then true
      else bif decide (IntKind.i64.wrap (cnt * p2 bits) > IntKind.i64.wrap (p2 src.2.2.1 - off)) then true
      else bif decide (ob = 1) then bif decide (bits ≥ src.2.2.1) then true else decide (cnt ≤ 1099511627776) && P_rret_0 (cnt - ((0 : Nat) : Int)).toNat (ob, bits, lev, wid, off, cnt, src, decide (ob = 3), p2 bits, [], 0)
      else decide (cnt ≤ 1099511627776) && P_rret_0 (cnt - ((0 : Nat) : Int)).toNat (ob, bits, lev, wid, off, cnt, src, decide (ob = 3), p2 bits, [], 0)) = true := by
    cases decide (Int.tmod off (p2 bits) = 0)
    · exact ⟨rfl, rfl⟩
    by_cases h5 : off > p2 src.2.2.1
    · simp only [decide_eq_true h5]; exact ⟨rfl, rfl⟩
    have w2 : IntKind.i64.wrap (p2 src.2.2.1 - off) = p2 src.2.2.1 - off := i64_id (by omega) (by omega)
    rw [w1, w2, decide_eq_false h5]
    by_cases h6 : cnt * p2 bits > p2 src.2.2.1 - off
    · simp only [decide_eq_true h6]; exact ⟨rfl, rfl⟩
    rw [decide_eq_false h6, show (cnt - ((0 : Nat) : Int)).toNat = cnt.toNat by simp]
    obtain ⟨r1, r2⟩ := rret_0 src ob bits lev wid off cnt (decide (ob = 3)) d1 (by omega) cnt.toNat 0 [] (by rw [Nat.zero_add, Int.toNat_of_nonneg (by omega)]; omega) (by simp; omega)
    rw [r1, r2, decide_eq_true (show cnt ≤ 1099511627776 by omega)]
    cases decide (ob = 1) <;> cases decide (bits ≥ src.2.2.1) <;> exact ⟨rfl, rfl⟩
  cases src.2.2.2.2.2.2 <;> cases ho1 : decide (ob = 1) <;> cases decide (ob = 2) <;> rw [ho1] at body <;> first | exact body | exact ⟨rfl, rfl⟩
theorem rret_P : ∀ a, (fun _ => true) a = true → P_rret a = true := fun ⟨src, ob, bits, lev, wid, off, cnt⟩ _ => (rret_main src ob bits lev wid off cnt).2
theorem rret_F : ∀ a, (fun _ => true) a = true → F_rret a = retS a := fun ⟨src, ob, bits, lev, wid, off, cnt⟩ _ => (rret_main src ob bits lev wid off cnt).1
theorem rret_run : ∀ a, (fun _ => true : SCp × Int × Int × Int × Int × Int × Int → Bool) a = true → ∃ f, M_rret f a = some ((retS : SCp × Int × Int × Int × Int × Int × Int → (List (SCp)) × Int) a) := fun a h => by have h1 := rret_auto a (rret_P a h); rw [rret_F a h] at h1; exact h1
noncomputable def E_rret : Ent := ⟨91, [.g tSCp, .c (.int .i64), .c (.int .i64), .c (.int .i64), .c (.int .i64), .c (.int .i64), .c (.int .i64)], [.o 29 7 tSCp, .v (.int .i64)], fun a => (fun _ => true : SCp × Int × Int × Int × Int × Int × Int → Bool) a, fun a => (retS : SCp × Int × Int × Int × Int × Int × Int → (List (SCp)) × Int) a⟩
theorem E_rret_ok : E_rret.Ok Try.prog := fun a hp vs hv => (rret_run a hp).elim fun f h => fnX_ok (C := C_rret) (Lt := Lt_rret) (fn := Try.f91) (rs := [.tmp 14, .tmp 15]) [.g tSCp, .c (.int .i64), .c (.int .i64), .c (.int .i64), .c (.int .i64), .c (.int .i64), .c (.int .i64)] [.o 29 7 tSCp, .v (.int .i64)] mixed es_rret Try.func91 rfl rfl rfl (by kernel_rfl) (by kernel_rfl) f h vs hv
/-! ### Nodes -/
def nid (n : SNd) : SId := (n.1, n.2.1, n.2.2.1)
def npath (n : SNd) : List SId := n.2.2.2.1
def ncap (n : SNd) : SCp := n.2.2.2.2
def mkN (i : SId) (p : List SId) (c : SCp) : SNd := (i.1, i.2.1, i.2.2, p, c)
theorem take_succ_drop {α : Type} {l r : List α} {u : α} {k : Nat} (h : l.drop k = u :: r) : l.take (k + 1) = l.take k ++ [u] := by
  rw [List.take_add_one, drop_get? h]; rfl
def uniqB {α : Type} [DecidableEq α] : List α → List α → Bool
  | _, [] => true
  | pre, u :: r => !memD u pre && uniqB (pre ++ [u]) r
theorem uniqB_iff {α : Type} [DecidableEq α] : ∀ (r pre : List α), pre.Nodup → (uniqB pre r = true ↔ (pre ++ r).Nodup)
  | [], pre, h => by simp [uniqB, h]
  | u :: r, pre, h => by
    simp only [uniqB, Bool.and_eq_true, Bool.not_eq_true', memD_not]
    constructor
    · rintro ⟨h1, h2⟩
      have h3 : (pre ++ [u]).Nodup := by
        rw [List.nodup_append]; exact ⟨h, by simp, fun a ha b hb => by simp at hb; subst hb; exact fun e => h1 (e ▸ ha)⟩
      have := (uniqB_iff r (pre ++ [u]) h3).1 h2
      simpa using this
    · intro h1
      have h2 : ((pre ++ [u]) ++ r).Nodup := by simpa using h1
      have h3 := (List.nodup_append.1 h2).1
      refine ⟨fun h4 => ?_, (uniqB_iff r (pre ++ [u]) h3).2 h2⟩
      exact (List.nodup_append.1 h3).2.2 u h4 u (by simp) rfl
def vnodB (n : SNd) : Bool := vidB (nid n) && (vcapB (ncap n) && (decide ((npath n).length ≤ 8) && ((npath n).all vidB && (uniqB [] (npath n) && !memD (nid n) (npath n)))))
theorem len8 (n : Nat) : decide ((n : Int) > 8) = !decide (n ≤ 8) := by rw [← decide_not]; exact decide_eq_decide.2 (by omega)
noncomputable def C_rvnod : Cfg := ⟨Try.prog, [E_rvid, E_rvcap, E_hasId], pmT [(6, ([(0, []), (1, []), (2, []), (3, []), (4, []), (5, []), (6, []), (7, []), (8, []), (9, []), (10, []), (11, []), (12, []), (13, []), (14, []), (15, []), (16, []), (17, []), (18, [])], [(34, 52)]))], 53, [], []⟩
theorem es_rvnod : EsOk Try.prog [E_rvid, E_rvcap, E_hasId] [] := es_cons E_rvid_ok (es_cons E_rvcap_ok (es_cons E_hasId_ok (es_nil)))
def Lt_rvnod : Nat → LD := ldT [(0, ⟨[.box 1 1 31 11 tSNd, .c 3 (.int .i64)], [], 0⟩)]
noncomputable def M_rvnod (f : Nat) (a : SNd) : Option (Bool) := (runX (C_rvnod) Lt_rvnod (Kret Try.prog [.tmp 2] [.v (.bool)]) f [.code (bodyOf Try.f56)] (initX [.g tSNd] a) : Option (ResT [.v (.bool)]))
noncomputable def L_rvnod_0 (f : Nat) (x : SNd × Int) : Option (Bool) := (runX (C_rvnod) Lt_rvnod (Kret Try.prog [.tmp 2] [.v (.bool)]) f (headOf Try.f56 0) ((Lt_rvnod 0).mk' x) : Option (ResT [.v (.bool)]))
theorem M_rvnod_eq (f : Nat) (n : SNd) : M_rvnod (f + 1) n =
    bif !vidB (n.1, n.2.1, n.2.2.1) then some false else bif !vcapB n.2.2.2.2 then some false else bif decide ((↑(List.length n.2.2.2.1) : Int) > 8) then some false else bif len40n n.2.2.2.1 then bif memD (n.1, n.2.1, n.2.2.1) n.2.2.2.1 then some false else L_rvnod_0 f (n, 0) else none := by kernel_rfl
theorem L_rvnod_0_eq (f : Nat) (n : SNd) (i : Int) : L_rvnod_0 (f + 1) (n, i) =
    bif decide (i < (↑(List.length n.2.2.2.1) : Int)) then bif decide (0 ≤ i) && decide (i < (↑(List.length n.2.2.2.1) : Int)) then bif !vidB (List.getD n.2.2.2.1 i.toNat (0, 0, 0)) then some false else bif decide (0 ≤ i) && decide (i ≤ (↑(List.length n.2.2.2.1) : Int)) then bif decide (0 ≤ i) && decide (i < (↑(List.length n.2.2.2.1) : Int)) then bif len40n (List.take i.toNat n.2.2.2.1) then bif memD (List.getD n.2.2.2.1 i.toNat (0, 0, 0)) (List.take i.toNat n.2.2.2.1) then some false else L_rvnod_0 f (n, IntKind.i64.wrap (i + 1)) else none else none else none else none else some true := by kernel_rfl
noncomputable def F_rvnod_0 : List (Int × Int × Int) → (SNd × Nat) → Bool
  | [], (n, i) => true
  | uu :: rest, (n, i) => bif !vidB uu then false else bif memD uu (List.take (↑i : Int).toNat n.2.2.2.1) then false else F_rvnod_0 rest (n, i + 1)
noncomputable def P_rvnod_0 : List (Int × Int × Int) → (SNd × Nat) → Bool
  | [], (n, i) => true
  | uu :: rest, (n, i) => bif !vidB uu then true else decide ((↑i : Int) ≤ (↑(List.length n.2.2.2.1) : Int)) && (len40n (List.take (↑i : Int).toNat n.2.2.2.1) && bif memD uu (List.take (↑i : Int).toNat n.2.2.2.1) then true else P_rvnod_0 rest (n, i + 1))
theorem A_rvnod_0 : ∀ (rest : List (Int × Int × Int)) (n : SNd) (i : Nat) (hd : n.snd.snd.snd.fst.drop i = rest) (hl : n.snd.snd.snd.fst.length ≤ 1099511627776), Rns (fun f => L_rvnod_0 f (n, ((i : Nat) : Int))) (P_rvnod_0 rest (n, i)) (F_rvnod_0 rest (n, i))
  | [], n, i, hd, hl => ev_step (T := fun f => some true) (fun f => (L_rvnod_0_eq f _ _).trans (by simp only [ge_dec (drop_ge hd), ge0, Bool.and_self, Bool.true_and, cond_true, cond_false, List.length_set] <;> rfl)) ev_some
  | uu :: rest, n, i, hd, hl => ev_step (T := fun f => bif !vidB uu then some false else bif decide ((↑i : Int) ≤ (↑(List.length n.2.2.2.1) : Int)) then bif len40n (List.take (↑i : Int).toNat n.2.2.2.1) then bif memD uu (List.take (↑i : Int).toNat n.2.2.2.1) then some false else L_rvnod_0 f (n, (↑(i + 1) : Int)) else none else none) (fun f => (L_rvnod_0_eq f _ _).trans (by simp only [lt_dec (drop_lt hd), drop_get hd, wrap_succ (drop_lt hd) hl, getD_set (drop_lt hd), ge0, Bool.and_self, Bool.true_and, cond_true, cond_false, List.length_set] <;> rfl)) (ev_bif ev_some (ev_chk (ev_chk (ev_bif ev_some (A_rvnod_0 rest _ _ (by first | exact drop_succ hd | exact drop_set hd | exact drop_setS (drop_set hd)) (by first | exact hl | simpa using hl))))))
noncomputable def F_rvnod : SNd → Bool
  | n => bif !vidB (n.1, n.2.1, n.2.2.1) then false else bif !vcapB n.2.2.2.2 then false else bif decide ((↑(List.length n.2.2.2.1) : Int) > 8) then false else bif memD (n.1, n.2.1, n.2.2.1) n.2.2.2.1 then false else F_rvnod_0 n.2.2.2.1 (n, 0)
noncomputable def P_rvnod : SNd → Bool
  | n => bif !vidB (n.1, n.2.1, n.2.2.1) then true else bif !vcapB n.2.2.2.2 then true else bif decide ((↑(List.length n.2.2.2.1) : Int) > 8) then true else len40n n.2.2.2.1 && bif memD (n.1, n.2.1, n.2.2.1) n.2.2.2.1 then true else decide (n.2.2.2.1.length ≤ 1099511627776) && P_rvnod_0 n.2.2.2.1 (n, 0)
theorem rvnod_auto : ∀ a : SNd, Rns (fun f => M_rvnod f a) (P_rvnod a) (F_rvnod a)
  | n => ev_step (fun f => M_rvnod_eq f _) (ev_bif ev_some (ev_bif ev_some (ev_bif ev_some (ev_chk (ev_bif ev_some (ev_and fun hh => A_rvnod_0 _ _ _ rfl (of_decide_eq_true hh)))))))
theorem rvnod_0 (n : SNd) (hl : (npath n).length ≤ 8) : ∀ (rest : List SId) (k : Nat), (npath n).drop k = rest → k ≤ (npath n).length → F_rvnod_0 rest (n, k) = (rest.all vidB && uniqB ((npath n).take k) rest) ∧ P_rvnod_0 rest (n, k) = true
  | [], k, h, hk => ⟨rfl, rfl⟩
  | u :: r, k, h, hk => by
    obtain ⟨i1, i2⟩ := rvnod_0 n hl r (k + 1) (drop_succ h) (drop_lt h)
    constructor
    · show (bif !vidB u then false else bif memD u ((npath n).take k) then false else F_rvnod_0 r (n, k + 1)) = _
      rw [i1, take_succ_drop h, List.all_cons, uniqB]
      cases vidB u <;> cases memD u (List.take k (npath n)) <;> simp
    · show (bif !vidB u then true else decide ((k : Int) ≤ (((npath n).length : Nat) : Int)) && (len40n ((npath n).take k) && bif memD u ((npath n).take k) then true else P_rvnod_0 r (n, k + 1))) = true
      rw [i2, show decide ((k : Int) ≤ (((npath n).length : Nat) : Int)) = true from decide_eq_true (by omega), show len40n ((npath n).take k) = true from decide_eq_true (by rw [List.length_take]; omega)]
      cases vidB u <;> cases memD u (List.take k (npath n)) <;> rfl
theorem rvnod_F : ∀ a, (fun _ => true) a = true → F_rvnod a = vnodB a := by
  intro n _
  show (bif !vidB (nid n) then false else bif !vcapB (ncap n) then false else bif decide ((((npath n).length : Nat) : Int) > 8) then false else bif memD (nid n) (npath n) then false else F_rvnod_0 (npath n) (n, 0)) = _
  rw [len8, vnodB]
  cases vidB (nid n) <;> cases vcapB (ncap n) <;> (try rfl)
  by_cases h : (npath n).length ≤ 8
  · rw [decide_eq_true h, (rvnod_0 n h (npath n) 0 rfl (by omega)).1]
    cases memD (nid n) (npath n) <;> simp
  · rw [decide_eq_false h]; rfl
theorem rvnod_P : ∀ a, (fun _ => true) a = true → P_rvnod a = true := by
  intro n _
  show (bif !vidB (nid n) then true else bif !vcapB (ncap n) then true else bif decide ((((npath n).length : Nat) : Int) > 8) then true else len40n (npath n) && bif memD (nid n) (npath n) then true else decide ((npath n).length ≤ 1099511627776) && P_rvnod_0 (npath n) (n, 0)) = true
  rw [len8]
  cases vidB (nid n) <;> cases vcapB (ncap n) <;> (try rfl)
  by_cases h : (npath n).length ≤ 8
  · rw [decide_eq_true h, (rvnod_0 n h (npath n) 0 rfl (by omega)).2, show len40n (npath n) = true from decide_eq_true (by omega), show decide ((npath n).length ≤ 1099511627776) = true from decide_eq_true (by omega)]
    cases memD (nid n) (npath n) <;> rfl
  · rw [decide_eq_false h]; rfl
theorem rvnod_run : ∀ a, (fun _ => true : SNd → Bool) a = true → ∃ f, M_rvnod f a = some ((vnodB : SNd → Bool) a) := fun a h => by have h1 := rvnod_auto a (rvnod_P a h); rw [rvnod_F a h] at h1; exact h1
noncomputable def E_rvnod : Ent := ⟨56, [.g tSNd], [.v (.bool)], fun a => (fun _ => true : SNd → Bool) a, fun a => (vnodB : SNd → Bool) a⟩
theorem E_rvnod_ok : E_rvnod.Ok Try.prog := fun a hp vs hv => (rvnod_run a hp).elim fun f h => fnX_ok (C := C_rvnod) (Lt := Lt_rvnod) (fn := Try.f56) (rs := [.tmp 2]) [.g tSNd] [.v (.bool)] mixed es_rvnod Try.func56 rfl rfl rfl (by kernel_rfl) (by kernel_rfl) f h vs hv
noncomputable def C_cnode : Cfg := ⟨Try.prog, [E_cids], pmT [], 8, [], []⟩
theorem es_cnode : EsOk Try.prog [E_cids] [] := es_cons E_cids_ok (es_nil)
def Lt_cnode : Nat → LD := ldT []
noncomputable def M_cnode (f : Nat) (a : SNd) : Option (SNd) := (runX (C_cnode) Lt_cnode (Kret Try.prog [.cell 2 31] [.g tSNd]) f [.code (bodyOf Try.f31)] (initX [.g tSNd] a) : Option (ResT [.g tSNd]))
theorem M_cnode_eq (f : Nat) (n : SNd) : M_cnode (f + 1) n =
    bif len40n n.2.2.2.1 then some n else none := by kernel_rfl
noncomputable def F_cnode : SNd → SNd
  | n => n
noncomputable def P_cnode : SNd → Bool
  | n => len40n n.2.2.2.1
theorem cnode_auto : ∀ a : SNd, Rns (fun f => M_cnode f a) (P_cnode a) (F_cnode a)
  | n => ev_step (fun f => M_cnode_eq f _) (ev_chk1 ev_some)
theorem cnode_P : ∀ a : SNd, len40n a.2.2.2.1 = true → P_cnode a = true := fun a h => h
theorem cnode_F : ∀ a : SNd, len40n a.2.2.2.1 = true → F_cnode a = a := fun a h => rfl
theorem cnode_run : ∀ a, (fun a => len40n a.2.2.2.1 : SNd → Bool) a = true → ∃ f, M_cnode f a = some ((fun a => a : SNd → SNd) a) := fun a h => by have h1 := cnode_auto a (cnode_P a h); rw [cnode_F a h] at h1; exact h1
noncomputable def E_cnode : Ent := ⟨31, [.g tSNd], [.g tSNd], fun a => (fun a => len40n a.2.2.2.1 : SNd → Bool) a, fun a => (fun a => a : SNd → SNd) a⟩
theorem E_cnode_ok : E_cnode.Ok Try.prog := fun a hp vs hv => (cnode_run a hp).elim fun f h => fnX_ok (C := C_cnode) (Lt := Lt_cnode) (fn := Try.f31) (rs := [.cell 2 31]) [.g tSNd] [.g tSNd] mixed es_cnode Try.func31 rfl rfl rfl (by kernel_rfl) (by kernel_rfl) f h vs hv
theorem node_eq (a b : SNd) : (bif a.1 == b.1 && (a.2.1 == b.2.1 && (a.2.2.1 == b.2.2.1 && true)) then bif a.2.2.2.2.1 == b.2.2.2.2.1 && (a.2.2.2.2.2.1 == b.2.2.2.2.2.1 && (a.2.2.2.2.2.2.1 == b.2.2.2.2.2.2.1 && (a.2.2.2.2.2.2.2.1 == b.2.2.2.2.2.2.2.1 && (a.2.2.2.2.2.2.2.2.1 == b.2.2.2.2.2.2.2.2.1 && (a.2.2.2.2.2.2.2.2.2.1 == b.2.2.2.2.2.2.2.2.2.1 && (a.2.2.2.2.2.2.2.2.2.2 == b.2.2.2.2.2.2.2.2.2.2 && true)))))) then decide (a.2.2.2.1 = b.2.2.2.1) else false else false) = decide (a = b) := by
  obtain ⟨a1, a2, a3, a4, a5, a6, a7, a8, a9, a10, a11⟩ := a
  obtain ⟨b1, b2, b3, b4, b5, b6, b7, b8, b9, b10, b11⟩ := b
  simp only [bif_and]
  rw [Bool.eq_iff_iff]
  simp only [Bool.and_eq_true, beq_iff_eq, Bool.and_true, decide_eq_true_eq, Prod.mk.injEq]
  exact ⟨fun ⟨⟨h1, h2, h3⟩, ⟨h5, h6, h7, h8, h9, h10, h11⟩, h4⟩ => ⟨h1, h2, h3, h4, h5, h6, h7, h8, h9, h10, h11⟩, fun ⟨h1, h2, h3, h4, h5, h6, h7, h8, h9, h10, h11⟩ => ⟨⟨h1, h2, h3⟩, ⟨h5, h6, h7, h8, h9, h10, h11⟩, h4⟩⟩
theorem bif_tt {a b : Bool} (h : b = true) : (bif a then b else true) = true := by cases a <;> simp [h]
noncomputable def C_snode : Cfg := ⟨Try.prog, [E_sids], pmT [], 24, [], []⟩
theorem es_snode : EsOk Try.prog [E_sids] [] := es_cons E_sids_ok (es_nil)
def Lt_snode : Nat → LD := ldT []
noncomputable def M_snode (f : Nat) (a : SNd × SNd) : Option (Bool) := (runX (C_snode) Lt_snode (Kret Try.prog [.tmp 4] [.v (.bool)]) f [.code (bodyOf Try.f35)] (initX [.g tSNd, .g tSNd] a) : Option (ResT [.v (.bool)]))
theorem M_snode_eq (f : Nat) (a : SNd) (b : SNd) : M_snode (f + 1) (a, b) =
    bif a.1 == b.1 && (a.2.1 == b.2.1 && (a.2.2.1 == b.2.2.1 && true)) then bif a.2.2.2.2.1 == b.2.2.2.2.1 && (a.2.2.2.2.2.1 == b.2.2.2.2.2.1 && (a.2.2.2.2.2.2.1 == b.2.2.2.2.2.2.1 && (a.2.2.2.2.2.2.2.1 == b.2.2.2.2.2.2.2.1 && (a.2.2.2.2.2.2.2.2.1 == b.2.2.2.2.2.2.2.2.1 && (a.2.2.2.2.2.2.2.2.2.1 == b.2.2.2.2.2.2.2.2.2.1 && (a.2.2.2.2.2.2.2.2.2.2 == b.2.2.2.2.2.2.2.2.2.2 && true)))))) then bif len40n a.2.2.2.1 then some (decide (a.2.2.2.1 = b.2.2.2.1)) else none else some false else some false := by kernel_rfl
noncomputable def F_snode : (SNd × SNd) → Bool
  | (a, b) => bif a.1 == b.1 && (a.2.1 == b.2.1 && (a.2.2.1 == b.2.2.1 && true)) then bif a.2.2.2.2.1 == b.2.2.2.2.1 && (a.2.2.2.2.2.1 == b.2.2.2.2.2.1 && (a.2.2.2.2.2.2.1 == b.2.2.2.2.2.2.1 && (a.2.2.2.2.2.2.2.1 == b.2.2.2.2.2.2.2.1 && (a.2.2.2.2.2.2.2.2.1 == b.2.2.2.2.2.2.2.2.1 && (a.2.2.2.2.2.2.2.2.2.1 == b.2.2.2.2.2.2.2.2.2.1 && (a.2.2.2.2.2.2.2.2.2.2 == b.2.2.2.2.2.2.2.2.2.2 && true)))))) then decide (a.2.2.2.1 = b.2.2.2.1) else false else false
noncomputable def P_snode : (SNd × SNd) → Bool
  | (a, b) => bif a.1 == b.1 && (a.2.1 == b.2.1 && (a.2.2.1 == b.2.2.1 && true)) then bif a.2.2.2.2.1 == b.2.2.2.2.1 && (a.2.2.2.2.2.1 == b.2.2.2.2.2.1 && (a.2.2.2.2.2.2.1 == b.2.2.2.2.2.2.1 && (a.2.2.2.2.2.2.2.1 == b.2.2.2.2.2.2.2.1 && (a.2.2.2.2.2.2.2.2.1 == b.2.2.2.2.2.2.2.2.1 && (a.2.2.2.2.2.2.2.2.2.1 == b.2.2.2.2.2.2.2.2.2.1 && (a.2.2.2.2.2.2.2.2.2.2 == b.2.2.2.2.2.2.2.2.2.2 && true)))))) then len40n a.2.2.2.1 else true else true
theorem snode_auto : ∀ a : SNd × SNd, Rns (fun f => M_snode f a) (P_snode a) (F_snode a)
  | (a, b) => ev_step (fun f => M_snode_eq f _ _) (ev_bif (ev_bif (ev_chk1 ev_some) ev_some) ev_some)
theorem snode_P : ∀ a : SNd × SNd, len40n a.1.2.2.2.1 = true → P_snode a = true := fun a h => by
  simp only [P_snode]; exact bif_tt (bif_tt h)
theorem snode_F : ∀ a : SNd × SNd, len40n a.1.2.2.2.1 = true → F_snode a = decide (a.1 = a.2) := fun a h => node_eq a.1 a.2
theorem snode_run : ∀ a, (fun a => len40n a.1.2.2.2.1 : SNd × SNd → Bool) a = true → ∃ f, M_snode f a = some ((fun a => decide (a.1 = a.2) : SNd × SNd → Bool) a) := fun a h => by have h1 := snode_auto a (snode_P a h); rw [snode_F a h] at h1; exact h1
noncomputable def E_snode : Ent := ⟨35, [.g tSNd, .g tSNd], [.v (.bool)], fun a => (fun a => len40n a.1.2.2.2.1 : SNd × SNd → Bool) a, fun a => (fun a => decide (a.1 = a.2) : SNd × SNd → Bool) a⟩
theorem E_snode_ok : E_snode.Ok Try.prog := fun a hp vs hv => (snode_run a hp).elim fun f h => fnX_ok (C := C_snode) (Lt := Lt_snode) (fn := Try.f35) (rs := [.tmp 4]) [.g tSNd, .g tSNd] [.v (.bool)] mixed es_snode Try.func35 rfl rfl rfl (by kernel_rfl) (by kernel_rfl) f h vs hv
noncomputable def C_nval : Cfg := ⟨Try.prog, [E_vid, E_vcap, E_scon], pmT [(6, ([(0, []), (1, []), (2, []), (3, []), (4, []), (5, []), (6, []), (7, []), (8, []), (9, []), (10, []), (11, []), (12, []), (13, []), (14, []), (15, []), (16, [])], [(29, 45)]))], 47, [], []⟩
theorem es_nval : EsOk Try.prog [E_vid, E_vcap, E_scon] [] := es_cons E_vid_ok (es_cons E_vcap_ok (es_cons E_scon_ok (es_nil)))
def Lt_nval : Nat → LD := ldT [(0, ⟨[.box 1 1 31 11 tSNd, .c 22 (.sl tSId), .c 23 (.int .i64), .c 24 (.int .i64)], [], 0⟩)]
noncomputable def M_nval (f : Nat) (a : SNd) : Option (Bool) := (runX (C_nval) Lt_nval (Kret Try.prog [.tmp 2] [.v (.bool)]) f [.code (bodyOf Try.f60)] (initX [.g tSNd] a) : Option (ResT [.v (.bool)]))
noncomputable def L_nval_0 (f : Nat) (x : SNd × (List (SId)) × Int × Int) : Option (Bool) := (runX (C_nval) Lt_nval (Kret Try.prog [.tmp 2] [.v (.bool)]) f (headOf Try.f60 0) ((Lt_nval 0).mk' x) : Option (ResT [.v (.bool)]))
theorem M_nval_eq (f : Nat) (n : SNd) : M_nval (f + 1) n =
    bif !vidB (n.1, n.2.1, n.2.2.1) then some false else bif !vcapB n.2.2.2.2 then some false else bif decide ((↑(List.length n.2.2.2.1) : Int) > 8) then some false else L_nval_0 f (n, n.2.2.2.1, (↑(List.length n.2.2.2.1) : Int), 0) := by kernel_rfl
theorem L_nval_0_eq (f : Nat) (n : SNd) (x22 : List (SId)) (x23 : Int) (x24 : Int) : L_nval_0 (f + 1) (n, x22, x23, x24) =
    bif decide (x24 < x23) then bif decide (0 ≤ x24) && decide (x24 < (↑x22.length : Int)) then bif !vidB (x22.getD x24.toNat (0, 0, 0)) then some false else bif (x22.getD x24.toNat (0, 0, 0)).1 == n.1 && ((x22.getD x24.toNat (0, 0, 0)).2.1 == n.2.1 && ((x22.getD x24.toNat (0, 0, 0)).2.2 == n.2.2.1 && true)) then some false else bif decide (0 ≤ x24) && decide (x24 ≤ (↑(List.length n.2.2.2.1) : Int)) then bif len40n (List.take x24.toNat n.2.2.2.1) then bif memD (x22.getD x24.toNat (0, 0, 0)) (List.take x24.toNat n.2.2.2.1) then some false else L_nval_0 f (n, x22, x23, IntKind.i64.wrap (x24 + 1)) else none else none else none else some true := by kernel_rfl
noncomputable def F_nval_0 : List (SId) → (SNd × (List (SId)) × Int × Nat) → Bool
  | [], (n, x22, x23, x24) => true
  | uu :: rest, (n, x22, x23, x24) => bif !vidB uu then false else bif uu.1 == n.1 && (uu.2.1 == n.2.1 && (uu.2.2 == n.2.2.1 && true)) then false else bif memD uu (List.take (↑x24 : Int).toNat n.2.2.2.1) then false else F_nval_0 rest (n, x22, x23, x24 + 1)
noncomputable def P_nval_0 : List (SId) → (SNd × (List (SId)) × Int × Nat) → Bool
  | [], (n, x22, x23, x24) => true
  | uu :: rest, (n, x22, x23, x24) => bif !vidB uu then true else bif uu.1 == n.1 && (uu.2.1 == n.2.1 && (uu.2.2 == n.2.2.1 && true)) then true else decide ((↑x24 : Int) ≤ (↑(List.length n.2.2.2.1) : Int)) && (len40n (List.take (↑x24 : Int).toNat n.2.2.2.1) && bif memD uu (List.take (↑x24 : Int).toNat n.2.2.2.1) then true else P_nval_0 rest (n, x22, x23, x24 + 1))
theorem A_nval_0 : ∀ (rest : List (SId)) (n : SNd) (x22 : List (SId)) (x23 : Int) (x24 : Nat) (hd : x22.drop x24 = rest) (hn : x23 = ((x22.length : Nat) : Int)) (hl : x22.length ≤ 1099511627776), Rns (fun f => L_nval_0 f (n, x22, x23, ((x24 : Nat) : Int))) (P_nval_0 rest (n, x22, x23, x24)) (F_nval_0 rest (n, x22, x23, x24))
  | [], n, x22, x23, x24, hd, hn, hl => ev_step (T := fun f => some true) (fun f => (L_nval_0_eq f _ _ _ _).trans (by simp only [ge_decn hn (drop_ge hd), ge0, Bool.and_self, Bool.true_and, cond_true, cond_false, List.length_set] <;> rfl)) ev_some
  | uu :: rest, n, x22, x23, x24, hd, hn, hl => ev_step (T := fun f => bif !vidB uu then some false else bif uu.1 == n.1 && (uu.2.1 == n.2.1 && (uu.2.2 == n.2.2.1 && true)) then some false else bif decide ((↑x24 : Int) ≤ (↑(List.length n.2.2.2.1) : Int)) then bif len40n (List.take (↑x24 : Int).toNat n.2.2.2.1) then bif memD uu (List.take (↑x24 : Int).toNat n.2.2.2.1) then some false else L_nval_0 f (n, x22, x23, (↑(x24 + 1) : Int)) else none else none) (fun f => (L_nval_0_eq f _ _ _ _).trans (by simp only [lt_decn hn (drop_lt hd), lt_dec (drop_lt hd), drop_get hd, wrap_succ (drop_lt hd) hl, getD_set (drop_lt hd), ge0, Bool.and_self, Bool.true_and, cond_true, cond_false, List.length_set] <;> rfl)) (ev_bif ev_some (ev_bif ev_some (ev_chk (ev_chk (ev_bif ev_some (A_nval_0 rest _ _ _ _ (by first | exact drop_succ hd | exact drop_set hd | exact drop_setS (drop_set hd)) (by first | exact hn | simpa using hn) (by first | exact hl | simpa using hl)))))))
noncomputable def F_nval : SNd → Bool
  | n => bif !vidB (n.1, n.2.1, n.2.2.1) then false else bif !vcapB n.2.2.2.2 then false else bif decide ((↑(List.length n.2.2.2.1) : Int) > 8) then false else F_nval_0 n.2.2.2.1 (n, n.2.2.2.1, (↑(List.length n.2.2.2.1) : Int), 0)
noncomputable def P_nval : SNd → Bool
  | n => bif !vidB (n.1, n.2.1, n.2.2.1) then true else bif !vcapB n.2.2.2.2 then true else bif decide ((↑(List.length n.2.2.2.1) : Int) > 8) then true else decide (List.length n.2.2.2.1 ≤ 1099511627776) && P_nval_0 n.2.2.2.1 (n, n.2.2.2.1, (↑(List.length n.2.2.2.1) : Int), 0)
theorem nval_auto : ∀ a : SNd, Rns (fun f => M_nval f a) (P_nval a) (F_nval a)
  | n => ev_step (fun f => M_nval_eq f _) (ev_bif ev_some (ev_bif ev_some (ev_bif ev_some (ev_and fun hh => A_nval_0 _ _ _ _ _ rfl (by first | rfl | simp) (of_decide_eq_true hh)))))
theorem nval_0 (n : SNd) (hl : (npath n).length ≤ 8) (l : List SId) (m : Int) : ∀ (rest : List SId) (k : Nat), (npath n).drop k = rest → k ≤ (npath n).length → F_nval_0 rest (n, l, m, k) = (rest.all vidB && (uniqB ((npath n).take k) rest && !memD (nid n) rest)) ∧ P_nval_0 rest (n, l, m, k) = true
  | [], k, h, hk => ⟨by simp [F_nval_0, uniqB, memD], rfl⟩
  | u :: r, k, h, hk => by
    obtain ⟨i1, i2⟩ := nval_0 n hl l m r (k + 1) (drop_succ h) (drop_lt h)
    have e : (u.1 == n.1 && (u.2.1 == n.2.1 && (u.2.2 == n.2.2.1 && true))) = decide (u = nid n) := id_eq u (nid n)
    constructor
    · show (bif !vidB u then false else bif u.1 == n.1 && (u.2.1 == n.2.1 && (u.2.2 == n.2.2.1 && true)) then false else bif memD u ((npath n).take k) then false else F_nval_0 r (n, l, m, k + 1)) = _
      rw [i1, take_succ_drop h, List.all_cons, uniqB, e]
      by_cases hu : u = nid n
      · subst hu; rw [memD_cons]; cases vidB (nid n) <;> simp
      · rw [memD_cons, decide_eq_false hu]
        cases vidB u <;> cases memD u (List.take k (npath n)) <;> simp
    · show (bif !vidB u then true else bif u.1 == n.1 && (u.2.1 == n.2.1 && (u.2.2 == n.2.2.1 && true)) then true else decide ((k : Int) ≤ (((npath n).length : Nat) : Int)) && (len40n ((npath n).take k) && bif memD u ((npath n).take k) then true else P_nval_0 r (n, l, m, k + 1))) = true
      rw [i2, show decide ((k : Int) ≤ (((npath n).length : Nat) : Int)) = true from decide_eq_true (by omega), show len40n ((npath n).take k) = true from decide_eq_true (by rw [List.length_take]; omega), e]
      cases vidB u <;> cases decide (u = nid n) <;> cases memD u (List.take k (npath n)) <;> rfl
theorem nval_F : ∀ a, (fun _ => true) a = true → F_nval a = vnodB a := by
  intro n _
  show (bif !vidB (nid n) then false else bif !vcapB (ncap n) then false else bif decide ((((npath n).length : Nat) : Int) > 8) then false else F_nval_0 (npath n) (n, npath n, (((npath n).length : Nat) : Int), 0)) = _
  rw [len8, vnodB]
  cases vidB (nid n) <;> cases vcapB (ncap n) <;> (try rfl)
  by_cases h : (npath n).length ≤ 8
  · rw [decide_eq_true h, (nval_0 n h _ _ (npath n) 0 rfl (by omega)).1]; simp
  · rw [decide_eq_false h]; rfl
theorem nval_P : ∀ a, (fun _ => true) a = true → P_nval a = true := by
  intro n _
  show (bif !vidB (nid n) then true else bif !vcapB (ncap n) then true else bif decide ((((npath n).length : Nat) : Int) > 8) then true else decide ((npath n).length ≤ 1099511627776) && P_nval_0 (npath n) (n, npath n, (((npath n).length : Nat) : Int), 0)) = true
  rw [len8]
  cases vidB (nid n) <;> cases vcapB (ncap n) <;> (try rfl)
  by_cases h : (npath n).length ≤ 8
  · rw [decide_eq_true h, (nval_0 n h _ _ (npath n) 0 rfl (by omega)).2, show decide ((npath n).length ≤ 1099511627776) = true from decide_eq_true (by omega)]; rfl
  · rw [decide_eq_false h]; rfl
theorem nval_run : ∀ a, (fun _ => true : SNd → Bool) a = true → ∃ f, M_nval f a = some ((vnodB : SNd → Bool) a) := fun a h => by have h1 := nval_auto a (nval_P a h); rw [nval_F a h] at h1; exact h1
noncomputable def E_nval : Ent := ⟨60, [.g tSNd], [.v (.bool)], fun a => (fun _ => true : SNd → Bool) a, fun a => (vnodB : SNd → Bool) a⟩
theorem E_nval_ok : E_nval.Ok Try.prog := fun a hp vs hv => (nval_run a hp).elim fun f h => fnX_ok (C := C_nval) (Lt := Lt_nval) (fn := Try.f60) (rs := [.tmp 2]) [.g tSNd] [.v (.bool)] mixed es_nval Try.func60 rfl rfl rfl (by kernel_rfl) (by kernel_rfl) f h vs hv
noncomputable def C_neq : Cfg := ⟨Try.prog, [E_seq], pmT [], 24, [], []⟩
theorem es_neq : EsOk Try.prog [E_seq] [] := es_cons E_seq_ok (es_nil)
def Lt_neq : Nat → LD := ldT []
noncomputable def M_neq (f : Nat) (a : SNd × SNd) : Option (Bool) := (runX (C_neq) Lt_neq (Kret Try.prog [.tmp 4] [.v (.bool)]) f [.code (bodyOf Try.f72)] (initX [.g tSNd, .g tSNd] a) : Option (ResT [.v (.bool)]))
theorem M_neq_eq (f : Nat) (a : SNd) (b : SNd) : M_neq (f + 1) (a, b) =
    bif a.1 == b.1 && (a.2.1 == b.2.1 && (a.2.2.1 == b.2.2.1 && true)) then bif a.2.2.2.2.1 == b.2.2.2.2.1 && (a.2.2.2.2.2.1 == b.2.2.2.2.2.1 && (a.2.2.2.2.2.2.1 == b.2.2.2.2.2.2.1 && (a.2.2.2.2.2.2.2.1 == b.2.2.2.2.2.2.2.1 && (a.2.2.2.2.2.2.2.2.1 == b.2.2.2.2.2.2.2.2.1 && (a.2.2.2.2.2.2.2.2.2.1 == b.2.2.2.2.2.2.2.2.2.1 && (a.2.2.2.2.2.2.2.2.2.2 == b.2.2.2.2.2.2.2.2.2.2 && true)))))) then bif len40n a.2.2.2.1 then some (decide (a.2.2.2.1 = b.2.2.2.1)) else none else some false else some false := by kernel_rfl
noncomputable def F_neq : (SNd × SNd) → Bool
  | (a, b) => bif a.1 == b.1 && (a.2.1 == b.2.1 && (a.2.2.1 == b.2.2.1 && true)) then bif a.2.2.2.2.1 == b.2.2.2.2.1 && (a.2.2.2.2.2.1 == b.2.2.2.2.2.1 && (a.2.2.2.2.2.2.1 == b.2.2.2.2.2.2.1 && (a.2.2.2.2.2.2.2.1 == b.2.2.2.2.2.2.2.1 && (a.2.2.2.2.2.2.2.2.1 == b.2.2.2.2.2.2.2.2.1 && (a.2.2.2.2.2.2.2.2.2.1 == b.2.2.2.2.2.2.2.2.2.1 && (a.2.2.2.2.2.2.2.2.2.2 == b.2.2.2.2.2.2.2.2.2.2 && true)))))) then decide (a.2.2.2.1 = b.2.2.2.1) else false else false
noncomputable def P_neq : (SNd × SNd) → Bool
  | (a, b) => bif a.1 == b.1 && (a.2.1 == b.2.1 && (a.2.2.1 == b.2.2.1 && true)) then bif a.2.2.2.2.1 == b.2.2.2.2.1 && (a.2.2.2.2.2.1 == b.2.2.2.2.2.1 && (a.2.2.2.2.2.2.1 == b.2.2.2.2.2.2.1 && (a.2.2.2.2.2.2.2.1 == b.2.2.2.2.2.2.2.1 && (a.2.2.2.2.2.2.2.2.1 == b.2.2.2.2.2.2.2.2.1 && (a.2.2.2.2.2.2.2.2.2.1 == b.2.2.2.2.2.2.2.2.2.1 && (a.2.2.2.2.2.2.2.2.2.2 == b.2.2.2.2.2.2.2.2.2.2 && true)))))) then len40n a.2.2.2.1 else true else true
theorem neq_auto : ∀ a : SNd × SNd, Rns (fun f => M_neq f a) (P_neq a) (F_neq a)
  | (a, b) => ev_step (fun f => M_neq_eq f _ _) (ev_bif (ev_bif (ev_chk1 ev_some) ev_some) ev_some)
theorem neq_P : ∀ a : SNd × SNd, len40n a.1.2.2.2.1 = true → P_neq a = true := fun a h => by
  simp only [P_neq]; exact bif_tt (bif_tt h)
theorem neq_F : ∀ a : SNd × SNd, len40n a.1.2.2.2.1 = true → F_neq a = decide (a.1 = a.2) := fun a h => node_eq a.1 a.2
theorem neq_run : ∀ a, (fun a => len40n a.1.2.2.2.1 : SNd × SNd → Bool) a = true → ∃ f, M_neq f a = some ((fun a => decide (a.1 = a.2) : SNd × SNd → Bool) a) := fun a h => by have h1 := neq_auto a (neq_P a h); rw [neq_F a h] at h1; exact h1
noncomputable def E_neq : Ent := ⟨72, [.g tSNd, .g tSNd], [.v (.bool)], fun a => (fun a => len40n a.1.2.2.2.1 : SNd × SNd → Bool) a, fun a => (fun a => decide (a.1 = a.2) : SNd × SNd → Bool) a⟩
theorem E_neq_ok : E_neq.Ok Try.prog := fun a hp vs hv => (neq_run a hp).elim fun f h => fnX_ok (C := C_neq) (Lt := Lt_neq) (fn := Try.f72) (rs := [.tmp 4]) [.g tSNd, .g tSNd] [.v (.bool)] mixed es_neq Try.func72 rfl rfl rfl (by kernel_rfl) (by kernel_rfl) f h vs hv
noncomputable def C_ncop : Cfg := ⟨Try.prog, [E_icl], pmT [], 8, [], []⟩
theorem es_ncop : EsOk Try.prog [E_icl] [] := es_cons E_icl_ok (es_nil)
def Lt_ncop : Nat → LD := ldT []
noncomputable def M_ncop (f : Nat) (a : SNd) : Option (SNd) := (runX (C_ncop) Lt_ncop (Kret Try.prog [.cell 2 31] [.g tSNd]) f [.code (bodyOf Try.f61)] (initX [.g tSNd] a) : Option (ResT [.g tSNd]))
theorem M_ncop_eq (f : Nat) (n : SNd) : M_ncop (f + 1) n =
    bif len40n n.2.2.2.1 then some n else none := by kernel_rfl
noncomputable def F_ncop : SNd → SNd
  | n => n
noncomputable def P_ncop : SNd → Bool
  | n => len40n n.2.2.2.1
theorem ncop_auto : ∀ a : SNd, Rns (fun f => M_ncop f a) (P_ncop a) (F_ncop a)
  | n => ev_step (fun f => M_ncop_eq f _) (ev_chk1 ev_some)
theorem ncop_P : ∀ a : SNd, len40n a.2.2.2.1 = true → P_ncop a = true := fun a h => h
theorem ncop_F : ∀ a : SNd, len40n a.2.2.2.1 = true → F_ncop a = a := fun a h => rfl
theorem ncop_run : ∀ a, (fun a => len40n a.2.2.2.1 : SNd → Bool) a = true → ∃ f, M_ncop f a = some ((fun a => a : SNd → SNd) a) := fun a h => by have h1 := ncop_auto a (ncop_P a h); rw [ncop_F a h] at h1; exact h1
noncomputable def E_ncop : Ent := ⟨61, [.g tSNd], [.g tSNd], fun a => (fun a => len40n a.2.2.2.1 : SNd → Bool) a, fun a => (fun a => a : SNd → SNd) a⟩
theorem E_ncop_ok : E_ncop.Ok Try.prog := fun a hp vs hv => (ncop_run a hp).elim fun f h => fnX_ok (C := C_ncop) (Lt := Lt_ncop) (fn := Try.f61) (rs := [.cell 2 31]) [.g tSNd] [.g tSNd] mixed es_ncop Try.func61 rfl rfl rfl (by kernel_rfl) (by kernel_rfl) f h vs hv
def zNd : SNd := (0, 0, 0, [], 0, 0, 0, 0, 0, 0, false)
def chlS (a : SNd × SId × SCp) : SNd × Int :=
  bif !vnodB a.1 || (!vidB a.2.1 || (!vcapB a.2.2 || (decide (a.2.1 = nid a.1) || memD a.2.1 (npath a.1)))) then (zNd, 1)
  else bif decide ((npath a.1).length = 8) then (zNd, 9) else (mkN a.2.1 (npath a.1 ++ [nid a.1]) a.2.2, 0)
noncomputable def C_rchl : Cfg := ⟨Try.prog, [E_rvnod, E_rvid, E_rvcap, E_hasId, E_cids], pmT [(5, ([(0, []), (1, []), (2, []), (4, []), (5, []), (6, []), (8, []), (3, []), (7, []), (9, []), (10, []), (11, [])], [(7, 7), (39, 48)]))], 49, [], []⟩
theorem es_rchl : EsOk Try.prog [E_rvnod, E_rvid, E_rvcap, E_hasId, E_cids] [] := es_cons E_rvnod_ok (es_cons E_rvid_ok (es_cons E_rvcap_ok (es_cons E_hasId_ok (es_cons E_cids_ok (es_nil)))))
def Lt_rchl : Nat → LD := ldT []
noncomputable def M_rchl (f : Nat) (a : SNd × SId × SCp) : Option (SNd × Int) := (runX (C_rchl) Lt_rchl (Kret Try.prog [.cell 6 31, .tmp 7] [.g tSNd, .v (.int .i64)]) f [.code (bodyOf Try.f92)] (initX [.g tSNd, .g tSId, .g tSCp] a) : Option (ResT [.g tSNd, .v (.int .i64)]))
theorem M_rchl_eq (f : Nat) (src : SNd) (id : SId) (c : SCp) : M_rchl (f + 1) (src, id, c) =
    bif !vnodB src then some ((0, 0, 0, [], 0, 0, 0, 0, 0, 0, false), 1) else bif !vidB id then some ((0, 0, 0, [], 0, 0, 0, 0, 0, 0, false), 1) else bif !vcapB c then some ((0, 0, 0, [], 0, 0, 0, 0, 0, 0, false), 1) else bif id.1 == src.1 && (id.2.1 == src.2.1 && (id.2.2 == src.2.2.1 && true)) then some ((0, 0, 0, [], 0, 0, 0, 0, 0, 0, false), 1) else bif len40n src.2.2.2.1 then bif memD id src.2.2.2.1 then some ((0, 0, 0, [], 0, 0, 0, 0, 0, 0, false), 1) else bif (↑(List.length src.2.2.2.1) : Int) == 8 then some ((0, 0, 0, [], 0, 0, 0, 0, 0, 0, false), 9) else bif len40n src.2.2.2.1 then bif decide ((List.length src.2.2.2.1 + [(src.1, src.2.1, src.2.2.1)].length) * 24 ≤ 140737488355328) then some ((id.1, id.2.1, id.2.2, src.2.2.2.1 ++ [(src.1, src.2.1, src.2.2.1)], c), 0) else none else none else none := by kernel_rfl
noncomputable def F_rchl : (SNd × SId × SCp) → SNd × Int
  | (src, id, c) => bif !vnodB src then ((0, 0, 0, [], 0, 0, 0, 0, 0, 0, false), 1) else bif !vidB id then ((0, 0, 0, [], 0, 0, 0, 0, 0, 0, false), 1) else bif !vcapB c then ((0, 0, 0, [], 0, 0, 0, 0, 0, 0, false), 1) else bif id.1 == src.1 && (id.2.1 == src.2.1 && (id.2.2 == src.2.2.1 && true)) then ((0, 0, 0, [], 0, 0, 0, 0, 0, 0, false), 1) else bif memD id src.2.2.2.1 then ((0, 0, 0, [], 0, 0, 0, 0, 0, 0, false), 1) else bif (↑(List.length src.2.2.2.1) : Int) == 8 then ((0, 0, 0, [], 0, 0, 0, 0, 0, 0, false), 9) else ((id.1, id.2.1, id.2.2, src.2.2.2.1 ++ [(src.1, src.2.1, src.2.2.1)], c), 0)
noncomputable def P_rchl : (SNd × SId × SCp) → Bool
  | (src, id, c) => bif !vnodB src then true else bif !vidB id then true else bif !vcapB c then true else bif id.1 == src.1 && (id.2.1 == src.2.1 && (id.2.2 == src.2.2.1 && true)) then true else len40n src.2.2.2.1 && bif memD id src.2.2.2.1 then true else bif (↑(List.length src.2.2.2.1) : Int) == 8 then true else len40n src.2.2.2.1 && decide ((List.length src.2.2.2.1 + [(src.1, src.2.1, src.2.2.1)].length) * 24 ≤ 140737488355328)
theorem rchl_auto : ∀ a : SNd × SId × SCp, Rns (fun f => M_rchl f a) (P_rchl a) (F_rchl a)
  | (src, id, c) => ev_step (fun f => M_rchl_eq f _ _ _) (ev_bif ev_some (ev_bif ev_some (ev_bif ev_some (ev_bif ev_some (ev_chk (ev_bif ev_some (ev_bif ev_some (ev_chk (ev_chk1 ev_some)))))))))
theorem len8e (n : Nat) : (((n : Nat) : Int) == 8) = decide (n = 8) := by
  by_cases h : n = 8
  · subst h; rfl
  · rw [decide_eq_false h]; simp; omega
theorem vnodB_len {n : SNd} (h : vnodB n = true) : (npath n).length ≤ 8 := by
  simp only [vnodB, Bool.and_eq_true, decide_eq_true_eq] at h; exact h.2.2.1
theorem rchl_main (a : SNd × SId × SCp) : F_rchl a = chlS a ∧ P_rchl a = true := by
  obtain ⟨src, id, c⟩ := a
  have e : (id.1 == src.1 && (id.2.1 == src.2.1 && (id.2.2 == src.2.2.1 && true))) = decide (id = nid src) := id_eq id (nid src)
  simp only [F_rchl, P_rchl, chlS, e, len8e]
  cases hv : vnodB src
  · exact ⟨rfl, rfl⟩
  have hl := vnodB_len hv
  have h1 : len40n src.2.2.2.1 = true := decide_eq_true (by show (npath src).length ≤ _; omega)
  have h2 : decide ((List.length src.2.2.2.1 + [(src.1, src.2.1, src.2.2.1)].length) * 24 ≤ 140737488355328) = true := decide_eq_true (by show ((npath src).length + 1) * 24 ≤ _; omega)
  rw [h1, h2]
  cases vidB id <;> cases vcapB c <;> cases decide (id = nid src) <;> (try exact ⟨rfl, rfl⟩)
  show (bif memD id (npath src) then _ else _) = _ ∧ _
  cases hm : memD id (npath src)
  · have : memD id src.2.2.2.1 = false := hm
    rw [this]
    show (bif decide ((npath src).length = 8) then (zNd, 9) else _) = _ ∧ _
    cases hd : decide ((npath src).length = 8)
    · have : decide (List.length src.2.2.2.1 = 8) = false := hd
      rw [this]; exact ⟨rfl, rfl⟩
    · have : decide (List.length src.2.2.2.1 = 8) = true := hd
      rw [this]; exact ⟨rfl, rfl⟩
  · have : memD id src.2.2.2.1 = true := hm
    rw [this]; exact ⟨rfl, rfl⟩
theorem rchl_P : ∀ a, (fun _ => true) a = true → P_rchl a = true := fun a _ => (rchl_main a).2
theorem rchl_F : ∀ a, (fun _ => true) a = true → F_rchl a = chlS a := fun a _ => (rchl_main a).1
theorem rchl_run : ∀ a, (fun _ => true : SNd × SId × SCp → Bool) a = true → ∃ f, M_rchl f a = some ((chlS : SNd × SId × SCp → SNd × Int) a) := fun a h => by have h1 := rchl_auto a (rchl_P a h); rw [rchl_F a h] at h1; exact h1
noncomputable def E_rchl : Ent := ⟨92, [.g tSNd, .g tSId, .g tSCp], [.g tSNd, .v (.int .i64)], fun a => (fun _ => true : SNd × SId × SCp → Bool) a, fun a => (chlS : SNd × SId × SCp → SNd × Int) a⟩
theorem E_rchl_ok : E_rchl.Ok Try.prog := fun a hp vs hv => (rchl_run a hp).elim fun f h => fnX_ok (C := C_rchl) (Lt := Lt_rchl) (fn := Try.f92) (rs := [.cell 6 31, .tmp 7]) [.g tSNd, .g tSId, .g tSCp] [.g tSNd, .v (.int .i64)] mixed es_rchl Try.func92 rfl rfl rfl (by kernel_rfl) (by kernel_rfl) f h vs hv
end Go.AL
