/-
  Layer 16: valid tables; addresses; search. By an AI agent.
-/
import Derived.Test.YtcpdakiailaneaaV0
namespace Go.AL
open Go.Proofs
set_option linter.unusedVariables false
set_option linter.unusedSimpArgs false
def lim (w : Int) : Int := bif decide (w = 32) then 1024 else bif decide (w = 39) then 512 else 1
theorem lim_p (w : Int) : IntKind.i64.wrap (1 * 2 ^ min ((geoS w).2.1).toNat IntKind.i64.bits) = lim w := by
  unfold geoS lim
  cases decide (w = 32) <;> cases decide (w = 39) <;> rfl
theorem geo_nn (w : Int) : decide (0 ≤ (geoS w).2.1) = true := by
  unfold geoS
  cases decide (w = 32) <;> cases decide (w = 39) <;> rfl
def mapsOK (t : SPT) : List SMp → Int → Bool
  | [], _ => true
  | m :: r, last => !decide (m.1 ≤ last) && (!decide (m.1 ≥ lim t.2.1) && (vidB m.2.2.2 && (palS m.2.1 && (!decide (m.2.2.1 < 0) && (!decide (m.2.2.1 > 3) && ((decide (t.2.2.1 = 0) || decide (m.2.2.1 = 0)) && mapsOK t r m.1))))))
def tabB (t : SPT) : Bool := (geoS t.2.1).2.2.2 && (!decide (t.2.2.1 < 0) && (!decide (t.2.2.1 ≥ (geoS t.2.1).1) && (palS t.1 && (!decide (t.2.2.2.length = 0) && mapsOK t t.2.2.2 (-1)))))
theorem len0 {α : Type} (l : List α) : (((l.length : Nat) : Int) == 0) = decide (l.length = 0) := by
  by_cases h : l.length = 0
  · rw [decide_eq_true h, h]; rfl
  · rw [decide_eq_false h]; exact beq_eq_false_iff_ne.2 (by omega)
noncomputable def C_ptv : Cfg := ⟨Try.prog, [E_geom, E_pal, E_vid], pmT [(8, ([(0, []), (1, []), (2, []), (3, []), (4, []), (5, []), (6, []), (7, []), (8, []), (9, []), (10, []), (11, []), (12, []), (13, []), (14, []), (15, []), (16, []), (17, []), (18, []), (19, []), (20, []), (21, []), (22, []), (23, []), (24, []), (25, []), (26, []), (27, []), (28, []), (29, []), (30, []), (31, []), (32, []), (33, []), (34, []), (35, []), (36, []), (37, []), (38, []), (39, []), (40, []), (41, []), (42, [])], [(50, 92)]))], 96, [], []⟩
theorem es_ptv : EsOk Try.prog [E_geom, E_pal, E_vid] [] := es_cons E_geom_ok (es_cons E_pal_ok (es_cons E_vid_ok (es_nil)))
def Lt_ptv : Nat → LD := ldT [(0, ⟨[.box 1 1 60 4 tSPT, .c 4 (.int .i64), .c 7 (.int .i64), .c 44 (.sl tSMp), .c 45 (.int .i64), .c 46 (.int .i64)], [], 0⟩)]
noncomputable def M_ptv (f : Nat) (a : SPT) : Option (Bool) := (runX (C_ptv) Lt_ptv (Kret Try.prog [.tmp 2] [.v (.bool)]) f [.code (bodyOf Try.f69)] (initX [.g tSPT] a) : Option (ResT [.v (.bool)]))
noncomputable def L_ptv_0 (f : Nat) (x : SPT × Int × Int × (List (SMp)) × Int × Int) : Option (Bool) := (runX (C_ptv) Lt_ptv (Kret Try.prog [.tmp 2] [.v (.bool)]) f (headOf Try.f69 0) ((Lt_ptv 0).mk' x) : Option (ResT [.v (.bool)]))
theorem M_ptv_eq (f : Nat) (t : SPT) : M_ptv (f + 1) t =
    bif !(geoS t.2.1).2.2.2 then some false else bif decide (t.2.2.1 < 0) then some false else bif decide (t.2.2.1 ≥ (geoS t.2.1).1) then some false else bif !palS t.1 then some false else bif (↑(List.length t.2.2.2) : Int) == 0 then some false else L_ptv_0 f (t, (geoS t.2.1).2.1, -1, t.2.2.2, (↑(List.length t.2.2.2) : Int), 0) := by kernel_rfl
theorem L_ptv_0_eq (f : Nat) (t : SPT) (bits : Int) (last : Int) (x44 : List (SMp)) (x45 : Int) (x46 : Int) : L_ptv_0 (f + 1) (t, bits, last, x44, x45, x46) =
    bif decide (x46 < x45) then bif decide (0 ≤ x46) && decide (x46 < (↑x44.length : Int)) then bif decide ((x44.getD x46.toNat (0, 0, 0, 0, 0, 0)).1 ≤ last) then some false else bif decide (0 ≤ bits) then bif decide ((x44.getD x46.toNat (0, 0, 0, 0, 0, 0)).1 ≥ IntKind.i64.wrap (1 * 2 ^ min bits.toNat IntKind.i64.bits)) then some false else bif !vidB (x44.getD x46.toNat (0, 0, 0, 0, 0, 0)).2.2.2 then some false else bif !palS (x44.getD x46.toNat (0, 0, 0, 0, 0, 0)).2.1 then some false else bif decide ((x44.getD x46.toNat (0, 0, 0, 0, 0, 0)).2.2.1 < 0) then some false else bif decide ((x44.getD x46.toNat (0, 0, 0, 0, 0, 0)).2.2.1 > 3) then some false else bif t.2.2.1 != 0 then bif (x44.getD x46.toNat (0, 0, 0, 0, 0, 0)).2.2.1 != 0 then some false else L_ptv_0 f (t, bits, (x44.getD x46.toNat (0, 0, 0, 0, 0, 0)).1, x44, x45, IntKind.i64.wrap (x46 + 1)) else L_ptv_0 f (t, bits, (x44.getD x46.toNat (0, 0, 0, 0, 0, 0)).1, x44, x45, IntKind.i64.wrap (x46 + 1)) else none else none else some true := by kernel_rfl
noncomputable def F_ptv_0 : List (SMp) → (SPT × Int × Int × (List (SMp)) × Int × Nat) → Bool
  | [], (t, bits, last, x44, x45, x46) => true
  | uu :: rest, (t, bits, last, x44, x45, x46) => bif decide (uu.1 ≤ last) then false else bif decide (uu.1 ≥ IntKind.i64.wrap (1 * 2 ^ min bits.toNat IntKind.i64.bits)) then false else bif !vidB uu.2.2.2 then false else bif !palS uu.2.1 then false else bif decide (uu.2.2.1 < 0) then false else bif decide (uu.2.2.1 > 3) then false else bif t.2.2.1 != 0 then bif uu.2.2.1 != 0 then false else F_ptv_0 rest (t, bits, uu.1, x44, x45, x46 + 1) else F_ptv_0 rest (t, bits, uu.1, x44, x45, x46 + 1)
noncomputable def P_ptv_0 : List (SMp) → (SPT × Int × Int × (List (SMp)) × Int × Nat) → Bool
  | [], (t, bits, last, x44, x45, x46) => true
  | uu :: rest, (t, bits, last, x44, x45, x46) => bif decide (uu.1 ≤ last) then true else decide (0 ≤ bits) && bif decide (uu.1 ≥ IntKind.i64.wrap (1 * 2 ^ min bits.toNat IntKind.i64.bits)) then true else bif !vidB uu.2.2.2 then true else bif !palS uu.2.1 then true else bif decide (uu.2.2.1 < 0) then true else bif decide (uu.2.2.1 > 3) then true else bif t.2.2.1 != 0 then bif uu.2.2.1 != 0 then true else P_ptv_0 rest (t, bits, uu.1, x44, x45, x46 + 1) else P_ptv_0 rest (t, bits, uu.1, x44, x45, x46 + 1)
theorem A_ptv_0 : ∀ (rest : List (SMp)) (t : SPT) (bits : Int) (last : Int) (x44 : List (SMp)) (x45 : Int) (x46 : Nat) (hd : x44.drop x46 = rest) (hn : x45 = ((x44.length : Nat) : Int)) (hl : x44.length ≤ 1099511627776), Rns (fun f => L_ptv_0 f (t, bits, last, x44, x45, ((x46 : Nat) : Int))) (P_ptv_0 rest (t, bits, last, x44, x45, x46)) (F_ptv_0 rest (t, bits, last, x44, x45, x46))
  | [], t, bits, last, x44, x45, x46, hd, hn, hl => ev_step (T := fun f => some true) (fun f => (L_ptv_0_eq f _ _ _ _ _ _).trans (by simp only [ge_decn hn (drop_ge hd), ge0, Bool.and_self, Bool.true_and, cond_true, cond_false, List.length_set] <;> rfl)) ev_some
  | uu :: rest, t, bits, last, x44, x45, x46, hd, hn, hl => ev_step (T := fun f => bif decide (uu.1 ≤ last) then some false else bif decide (0 ≤ bits) then bif decide (uu.1 ≥ IntKind.i64.wrap (1 * 2 ^ min bits.toNat IntKind.i64.bits)) then some false else bif !vidB uu.2.2.2 then some false else bif !palS uu.2.1 then some false else bif decide (uu.2.2.1 < 0) then some false else bif decide (uu.2.2.1 > 3) then some false else bif t.2.2.1 != 0 then bif uu.2.2.1 != 0 then some false else L_ptv_0 f (t, bits, uu.1, x44, x45, (↑(x46 + 1) : Int)) else L_ptv_0 f (t, bits, uu.1, x44, x45, (↑(x46 + 1) : Int)) else none) (fun f => (L_ptv_0_eq f _ _ _ _ _ _).trans (by simp only [lt_decn hn (drop_lt hd), lt_dec (drop_lt hd), drop_get hd, wrap_succ (drop_lt hd) hl, getD_set (drop_lt hd), ge0, Bool.and_self, Bool.true_and, cond_true, cond_false, List.length_set] <;> rfl)) (ev_bif ev_some (ev_chk (ev_bif ev_some (ev_bif ev_some (ev_bif ev_some (ev_bif ev_some (ev_bif ev_some (ev_bif (ev_bif ev_some (A_ptv_0 rest _ _ _ _ _ _ (by first | exact drop_succ hd | exact drop_set hd | exact drop_setS (drop_set hd)) (by first | exact hn | simpa using hn) (by first | exact hl | simpa using hl))) (A_ptv_0 rest _ _ _ _ _ _ (by first | exact drop_succ hd | exact drop_set hd | exact drop_setS (drop_set hd)) (by first | exact hn | simpa using hn) (by first | exact hl | simpa using hl))))))))))
noncomputable def F_ptv : SPT → Bool
  | t => bif !(geoS t.2.1).2.2.2 then false else bif decide (t.2.2.1 < 0) then false else bif decide (t.2.2.1 ≥ (geoS t.2.1).1) then false else bif !palS t.1 then false else bif (↑(List.length t.2.2.2) : Int) == 0 then false else F_ptv_0 t.2.2.2 (t, (geoS t.2.1).2.1, -1, t.2.2.2, (↑(List.length t.2.2.2) : Int), 0)
noncomputable def P_ptv : SPT → Bool
  | t => bif !(geoS t.2.1).2.2.2 then true else bif decide (t.2.2.1 < 0) then true else bif decide (t.2.2.1 ≥ (geoS t.2.1).1) then true else bif !palS t.1 then true else bif (↑(List.length t.2.2.2) : Int) == 0 then true else decide (List.length t.2.2.2 ≤ 1099511627776) && P_ptv_0 t.2.2.2 (t, (geoS t.2.1).2.1, -1, t.2.2.2, (↑(List.length t.2.2.2) : Int), 0)
theorem ptv_auto : ∀ a : SPT, Rns (fun f => M_ptv f a) (P_ptv a) (F_ptv a)
  | t => ev_step (fun f => M_ptv_eq f _) (ev_bif ev_some (ev_bif ev_some (ev_bif ev_some (ev_bif ev_some (ev_bif ev_some (ev_and fun hh => A_ptv_0 _ _ _ _ _ _ _ rfl (by first | rfl | simp) (of_decide_eq_true hh)))))))
theorem ptv_0 (t : SPT) (x44 : List SMp) (x45 : Int) : ∀ (r : List SMp) (last : Int) (k : Nat), F_ptv_0 r (t, (geoS t.2.1).2.1, last, x44, x45, k) = mapsOK t r last ∧ P_ptv_0 r (t, (geoS t.2.1).2.1, last, x44, x45, k) = true
  | [], last, k => ⟨rfl, rfl⟩
  | u :: r, last, k => by
    obtain ⟨i1, i2⟩ := ptv_0 t x44 x45 r u.1 (k + 1)
    simp only [F_ptv_0, P_ptv_0, mapsOK, lim_p, geo_nn, i1, i2, bneI, Bool.true_and]
    constructor
    · cases decide (u.1 ≤ last) <;> cases decide (u.1 ≥ lim t.2.1) <;> cases vidB u.2.2.2 <;> cases palS u.2.1 <;> cases decide (u.2.2.1 < 0) <;> cases decide (u.2.2.1 > 3) <;> cases decide (t.2.2.1 = 0) <;> cases decide (u.2.2.1 = 0) <;> rfl
    · cases decide (u.1 ≤ last) <;> cases decide (u.1 ≥ lim t.2.1) <;> cases vidB u.2.2.2 <;> cases palS u.2.1 <;> cases decide (u.2.2.1 < 0) <;> cases decide (u.2.2.1 > 3) <;> cases decide (t.2.2.1 = 0) <;> cases decide (u.2.2.1 = 0) <;> rfl
theorem ptv_both : ∀ t : SPT, len40n t.2.2.2 = true → P_ptv t = true ∧ F_ptv t = tabB t := fun t h => by
  have h' : decide (t.2.2.2.length ≤ 1099511627776) = true := h
  have k := ptv_0 t t.2.2.2 ((t.2.2.2.length : Nat) : Int) t.2.2.2 (-1) 0
  simp only [P_ptv, F_ptv, tabB, len0, k.1, k.2, h']
  cases (geoS t.2.1).2.2.2 <;> cases decide (t.2.2.1 < 0) <;> cases decide (t.2.2.1 ≥ (geoS t.2.1).1) <;> cases palS t.1 <;> cases decide (t.2.2.2.length = 0) <;> exact ⟨rfl, rfl⟩
theorem ptv_P : ∀ t : SPT, len40n t.2.2.2 = true → P_ptv t = true := fun t h => (ptv_both t h).1
theorem ptv_F : ∀ t : SPT, len40n t.2.2.2 = true → F_ptv t = tabB t := fun t h => (ptv_both t h).2
theorem ptv_run : ∀ a, (fun t => len40n t.2.2.2 : SPT → Bool) a = true → ∃ f, M_ptv f a = some ((tabB : SPT → Bool) a) := fun a h => by have h1 := ptv_auto a (ptv_P a h); rw [ptv_F a h] at h1; exact h1
noncomputable def E_ptv : Ent := ⟨69, [.g tSPT], [.v (.bool)], fun a => (fun t => len40n t.2.2.2 : SPT → Bool) a, fun a => (tabB : SPT → Bool) a⟩
theorem E_ptv_ok : E_ptv.Ok Try.prog := fun a hp vs hv => (ptv_run a hp).elim fun f h => fnX_ok (C := C_ptv) (Lt := Lt_ptv) (fn := Try.f69) (rs := [.tmp 2]) [.g tSPT] [.v (.bool)] mixed es_ptv Try.func69 rfl rfl rfl (by kernel_rfl) (by kernel_rfl) f h vs hv
def vaS (a : Int × Int) : Bool := (geoS a.1).2.2.2 && (decide (a.2 ≥ 0) && decide (a.2 < bif decide (a.1 = 32) then 4294967296 else 549755813888))
noncomputable def C_pva : Cfg := ⟨Try.prog, [E_geom], pmT [], 27, [], []⟩
theorem es_pva : EsOk Try.prog [E_geom] [] := es_cons E_geom_ok (es_nil)
def Lt_pva : Nat → LD := ldT []
noncomputable def M_pva (f : Nat) (a : Int × Int) : Option (Bool) := (runX (C_pva) Lt_pva (Kret Try.prog [.tmp 4] [.v (.bool)]) f [.code (bodyOf Try.f64)] (initX [.c (.int .i64), .c (.int .i64)] a) : Option (ResT [.v (.bool)]))
theorem M_pva_eq (f : Nat) (width : Int) (addr : Int) : M_pva (f + 1) (width, addr) =
    bif (geoS width).2.2.2 then bif decide (addr ≥ 0) then bif decide (0 ≤ width) then some (decide (addr < IntKind.i64.wrap (1 * 2 ^ min width.toNat IntKind.i64.bits))) else none else some false else some false := by kernel_rfl
noncomputable def F_pva : (Int × Int) → Bool
  | (width, addr) => bif (geoS width).2.2.2 then bif decide (addr ≥ 0) then decide (addr < IntKind.i64.wrap (1 * 2 ^ min width.toNat IntKind.i64.bits)) else false else false
noncomputable def P_pva : (Int × Int) → Bool
  | (width, addr) => bif (geoS width).2.2.2 then bif decide (addr ≥ 0) then decide (0 ≤ width) else true else true
theorem pva_auto : ∀ a : Int × Int, Rns (fun f => M_pva f a) (P_pva a) (F_pva a)
  | (width, addr) => ev_step (fun f => M_pva_eq f _ _) (ev_bif (ev_bif (ev_chk1 ev_some) ev_some) ev_some)
theorem geo_w {w : Int} (h : (geoS w).2.2.2 = true) : w = 32 ∨ w = 39 := by
  unfold geoS at h
  by_cases h1 : w = 32
  · exact .inl h1
  · by_cases h2 : w = 39
    · exact .inr h2
    · rw [decide_eq_false h1, decide_eq_false h2] at h; cases h
theorem pva_both : ∀ a : Int × Int, P_pva a = true ∧ F_pva a = vaS a := by
  rintro ⟨w, a⟩
  simp only [P_pva, F_pva, vaS]
  cases hg : (geoS w).2.2.2
  · exact ⟨rfl, rfl⟩
  · rcases geo_w hg with rfl | rfl
    · cases decide (a ≥ 0) <;> exact ⟨rfl, rfl⟩
    · cases decide (a ≥ 0) <;> exact ⟨rfl, rfl⟩
theorem pva_P : ∀ a : Int × Int, (fun _ => true) a = true → P_pva a = true := fun a _ => (pva_both a).1
theorem pva_F : ∀ a : Int × Int, (fun _ => true) a = true → F_pva a = vaS a := fun a _ => (pva_both a).2
theorem pva_run : ∀ a, (fun _ => true : Int × Int → Bool) a = true → ∃ f, M_pva f a = some ((vaS : Int × Int → Bool) a) := fun a h => by have h1 := pva_auto a (pva_P a h); rw [pva_F a h] at h1; exact h1
noncomputable def E_pva : Ent := ⟨64, [.c (.int .i64), .c (.int .i64)], [.v (.bool)], fun a => (fun _ => true : Int × Int → Bool) a, fun a => (vaS : Int × Int → Bool) a⟩
theorem E_pva_ok : E_pva.Ok Try.prog := fun a hp vs hv => (pva_run a hp).elim fun f h => fnX_ok (C := C_pva) (Lt := Lt_pva) (fn := Try.f64) (rs := [.tmp 4]) [.c (.int .i64), .c (.int .i64)] [.v (.bool)] mixed es_pva Try.func64 rfl rfl rfl (by kernel_rfl) (by kernel_rfl) f h vs hv
noncomputable def C_ff1 : Cfg := ⟨Try.prog, [], pmT [], 8, [], []⟩
theorem es_ff1 : EsOk Try.prog [] [] := es_nil
def Lt_ff1 : Nat → LD := ldT []
noncomputable def M_ff1 (f : Nat) (a : SPT × Int) : Option (Bool) := (runX (C_ff1) Lt_ff1 (Kret Try.prog [.tmp 3] [.v (.bool)]) f [.code (bodyOf Try.f95)] (initX [.g tSPT, .cp [.int .i64]] a) : Option (ResT [.v (.bool)]))
theorem M_ff1_eq (f : Nat) (t : SPT) (base : Int) : M_ff1 (f + 1) (t, base) =
    some (t.1 == base) := by kernel_rfl
noncomputable def F_ff1 : (SPT × Int) → Bool
  | (t, base) => t.1 == base
noncomputable def P_ff1 : (SPT × Int) → Bool
  | (t, base) => true
theorem ff1_auto : ∀ a : SPT × Int, Rns (fun f => M_ff1 f a) (P_ff1 a) (F_ff1 a)
  | (t, base) => ev_step (fun f => M_ff1_eq f _ _) ev_some
theorem ff1_P : ∀ a : SPT × Int, (fun _ => true) a = true → P_ff1 a = true := fun a h => rfl
theorem ff1_F : ∀ a : SPT × Int, (fun _ => true) a = true → F_ff1 a = decide (a.1.1 = a.2) := fun a h => by simp only [F_ff1, beqI]
theorem ff1_run : ∀ a, (fun _ => true : SPT × Int → Bool) a = true → ∃ f, M_ff1 f a = some ((fun a => decide (a.1.1 = a.2) : SPT × Int → Bool) a) := fun a h => by have h1 := ff1_auto a (ff1_P a h); rw [ff1_F a h] at h1; exact h1
noncomputable def E_ff1 : Ent := ⟨95, [.g tSPT, .cp [.int .i64]], [.v (.bool)], fun a => (fun _ => true : SPT × Int → Bool) a, fun a => (fun a => decide (a.1.1 = a.2) : SPT × Int → Bool) a⟩
theorem E_ff1_ok : E_ff1.Ok Try.prog := fun a hp vs hv => (ff1_run a hp).elim fun f h => fnX_ok (C := C_ff1) (Lt := Lt_ff1) (fn := Try.f95) (rs := [.tmp 3]) [.g tSPT, .cp [.int .i64]] [.v (.bool)] mixed es_ff1 Try.func95 rfl rfl rfl (by kernel_rfl) (by kernel_rfl) f h vs hv
noncomputable def C_fm1 : Cfg := ⟨Try.prog, [], pmT [], 8, [], []⟩
theorem es_fm1 : EsOk Try.prog [] [] := es_nil
def Lt_fm1 : Nat → LD := ldT []
noncomputable def M_fm1 (f : Nat) (a : SMp × Int) : Option (Bool) := (runX (C_fm1) Lt_fm1 (Kret Try.prog [.tmp 3] [.v (.bool)]) f [.code (bodyOf Try.f105)] (initX [.g tSMp, .cp [.int .i64]] a) : Option (ResT [.v (.bool)]))
theorem M_fm1_eq (f : Nat) (m : SMp) (index : Int) : M_fm1 (f + 1) (m, index) =
    some (m.1 == index) := by kernel_rfl
noncomputable def F_fm1 : (SMp × Int) → Bool
  | (m, index) => m.1 == index
noncomputable def P_fm1 : (SMp × Int) → Bool
  | (m, index) => true
theorem fm1_auto : ∀ a : SMp × Int, Rns (fun f => M_fm1 f a) (P_fm1 a) (F_fm1 a)
  | (m, index) => ev_step (fun f => M_fm1_eq f _ _) ev_some
theorem fm1_P : ∀ a : SMp × Int, (fun _ => true) a = true → P_fm1 a = true := fun a h => rfl
theorem fm1_F : ∀ a : SMp × Int, (fun _ => true) a = true → F_fm1 a = decide (a.1.1 = a.2) := fun a h => by simp only [F_fm1, beqI]
theorem fm1_run : ∀ a, (fun _ => true : SMp × Int → Bool) a = true → ∃ f, M_fm1 f a = some ((fun a => decide (a.1.1 = a.2) : SMp × Int → Bool) a) := fun a h => by have h1 := fm1_auto a (fm1_P a h); rw [fm1_F a h] at h1; exact h1
noncomputable def E_fm1 : Ent := ⟨105, [.g tSMp, .cp [.int .i64]], [.v (.bool)], fun a => (fun _ => true : SMp × Int → Bool) a, fun a => (fun a => decide (a.1.1 = a.2) : SMp × Int → Bool) a⟩
theorem E_fm1_ok : E_fm1.Ok Try.prog := fun a hp vs hv => (fm1_run a hp).elim fun f h => fnX_ok (C := C_fm1) (Lt := Lt_fm1) (fn := Try.f105) (rs := [.tmp 3]) [.g tSMp, .cp [.int .i64]] [.v (.bool)] mixed es_fm1 Try.func105 rfl rfl rfl (by kernel_rfl) (by kernel_rfl) f h vs hv
noncomputable def C_map1 : Cfg := ⟨Try.prog, [], pmT [], 9, [], []⟩
theorem es_map1 : EsOk Try.prog [] [] := es_nil
def Lt_map1 : Nat → LD := ldT []
noncomputable def M_map1 (f : Nat) (a : SPT × SCp) : Option (Bool) := (runX (C_map1) Lt_map1 (Kret Try.prog [.tmp 3] [.v (.bool)]) f [.code (bodyOf Try.f59)] (initX [.g tSPT, .cp tSCp] a) : Option (ResT [.v (.bool)]))
theorem M_map1_eq (f : Nat) (t : SPT) (table : SCp) : M_map1 (f + 1) (t, table) =
    some (decide (t.1 > table.2.1)) := by kernel_rfl
noncomputable def F_map1 : (SPT × SCp) → Bool
  | (t, table) => decide (t.1 > table.2.1)
noncomputable def P_map1 : (SPT × SCp) → Bool
  | (t, table) => true
theorem map1_auto : ∀ a : SPT × SCp, Rns (fun f => M_map1 f a) (P_map1 a) (F_map1 a)
  | (t, table) => ev_step (fun f => M_map1_eq f _ _) ev_some
theorem map1_P : ∀ a : SPT × SCp, (fun _ => true) a = true → P_map1 a = true := fun a h => rfl
theorem map1_F : ∀ a : SPT × SCp, (fun _ => true) a = true → F_map1 a = decide (a.1.1 > a.2.2.1) := fun a h => rfl
theorem map1_run : ∀ a, (fun _ => true : SPT × SCp → Bool) a = true → ∃ f, M_map1 f a = some ((fun a => decide (a.1.1 > a.2.2.1) : SPT × SCp → Bool) a) := fun a h => by have h1 := map1_auto a (map1_P a h); rw [map1_F a h] at h1; exact h1
noncomputable def E_map1 : Ent := ⟨59, [.g tSPT, .cp tSCp], [.v (.bool)], fun a => (fun _ => true : SPT × SCp → Bool) a, fun a => (fun a => decide (a.1.1 > a.2.2.1) : SPT × SCp → Bool) a⟩
theorem E_map1_ok : E_map1.Ok Try.prog := fun a hp vs hv => (map1_run a hp).elim fun f h => fnX_ok (C := C_map1) (Lt := Lt_map1) (fn := Try.f59) (rs := [.tmp 3]) [.g tSPT, .cp tSCp] [.v (.bool)] mixed es_map1 Try.func59 rfl rfl rfl (by kernel_rfl) (by kernel_rfl) f h vs hv
def okT (l : List SPT) : Bool := len36n l && l.all fun t => len36n t.2.2.2
noncomputable def C_rctb : Cfg := ⟨Try.prog, [], pmT [], 25, [], [(18, tSMp)]⟩
theorem es_rctb : EsOk Try.prog [] [] := es_nil
def Lt_rctb : Nat → LD := ldT [(0, ⟨[.rd 0 tSPT, .list 3 999 60 4 tSPT, .c 4 (.int .i64)], [], 0⟩)]
noncomputable def M_rctb (f : Nat) (a : (List (SPT))) : Option ((List (SPT))) := (runX (C_rctb) Lt_rctb (Kret Try.prog [.tmp 2] [.o 60 4 tSPT]) f [.code (bodyOf Try.f26)] (initX [.rd tSPT] a) : Option (ResT [.o 60 4 tSPT]))
noncomputable def L_rctb_0 (f : Nat) (x : (List (SPT)) × (List (SPT)) × Int) : Option ((List (SPT))) := (runX (C_rctb) Lt_rctb (Kret Try.prog [.tmp 2] [.o 60 4 tSPT]) f (headOf Try.f26 0) ((Lt_rctb 0).mk' x) : Option (ResT [.o 60 4 tSPT]))
theorem M_rctb_eq (f : Nat) (ts : List (SPT)) : M_rctb (f + 1) ts =
    L_rctb_0 f (ts, [], 0) := by kernel_rfl
theorem L_rctb_0_eq (f : Nat) (ts : List (SPT)) (out : List (SPT)) (i : Int) : L_rctb_0 (f + 1) (ts, out, i) =
    bif decide (i < (↑ts.length : Int)) then bif decide (0 ≤ i) && decide (i < (↑ts.length : Int)) then bif decide (List.length (ts.getD i.toNat (0, 0, 0, [])).2.2.2 * 48 ≤ 140737488355328) then bif decide ((out.length + [((ts.getD i.toNat (0, 0, 0, [])).1, (ts.getD i.toNat (0, 0, 0, [])).2.1, (ts.getD i.toNat (0, 0, 0, [])).2.2.1, (ts.getD i.toNat (0, 0, 0, [])).2.2.2)].length) * 48 ≤ 140737488355328) then L_rctb_0 f (ts, out ++ [ts.getD i.toNat (0, 0, 0, [])], IntKind.i64.wrap (i + 1)) else none else none else none else some out := by kernel_rfl
noncomputable def F_rctb_0 : List (SPT) → ((List (SPT)) × (List (SPT)) × Nat) → (List (SPT))
  | [], (ts, out, i) => out
  | uu :: rest, (ts, out, i) => F_rctb_0 rest (ts, out ++ [uu], i + 1)
noncomputable def P_rctb_0 : List (SPT) → ((List (SPT)) × (List (SPT)) × Nat) → Bool
  | [], (ts, out, i) => true
  | uu :: rest, (ts, out, i) => decide (List.length uu.2.2.2 * 48 ≤ 140737488355328) && (decide ((out.length + [(uu.1, uu.2.1, uu.2.2.1, uu.2.2.2)].length) * 48 ≤ 140737488355328) && P_rctb_0 rest (ts, out ++ [uu], i + 1))
theorem A_rctb_0 : ∀ (rest : List (SPT)) (ts : List (SPT)) (out : List (SPT)) (i : Nat) (hd : ts.drop i = rest) (hl : ts.length ≤ 1099511627776), Rns (fun f => L_rctb_0 f (ts, out, ((i : Nat) : Int))) (P_rctb_0 rest (ts, out, i)) (F_rctb_0 rest (ts, out, i))
  | [], ts, out, i, hd, hl => ev_step (T := fun f => some out) (fun f => (L_rctb_0_eq f _ _ _).trans (by simp only [ge_dec (drop_ge hd), ge0, Bool.and_self, Bool.true_and, cond_true, cond_false, List.length_set] <;> rfl)) ev_some
  | uu :: rest, ts, out, i, hd, hl => ev_step (T := fun f => bif decide (List.length uu.2.2.2 * 48 ≤ 140737488355328) then bif decide ((out.length + [(uu.1, uu.2.1, uu.2.2.1, uu.2.2.2)].length) * 48 ≤ 140737488355328) then L_rctb_0 f (ts, out ++ [uu], (↑(i + 1) : Int)) else none else none) (fun f => (L_rctb_0_eq f _ _ _).trans (by simp only [lt_dec (drop_lt hd), drop_get hd, wrap_succ (drop_lt hd) hl, getD_set (drop_lt hd), ge0, Bool.and_self, Bool.true_and, cond_true, cond_false, List.length_set] <;> rfl)) (ev_chk (ev_chk (A_rctb_0 rest _ _ _ (by first | exact drop_succ hd | exact drop_set hd | exact drop_setS (drop_set hd)) (by first | exact hl | simpa using hl))))
noncomputable def F_rctb : (List (SPT)) → (List (SPT))
  | ts => F_rctb_0 ts (ts, [], 0)
noncomputable def P_rctb : (List (SPT)) → Bool
  | ts => decide (ts.length ≤ 1099511627776) && P_rctb_0 ts (ts, [], 0)
theorem rctb_auto : ∀ a : (List (SPT)), Rns (fun f => M_rctb f a) (P_rctb a) (F_rctb a)
  | ts => ev_step (fun f => M_rctb_eq f _) (ev_and fun hh => A_rctb_0 _ _ _ _ rfl (of_decide_eq_true hh))
theorem len36_le {α : Type} {l : List α} (h : len36n l = true) : l.length ≤ 68719476736 := of_decide_eq_true h
theorem okT_len {l : List SPT} (h : okT l = true) : l.length ≤ 68719476736 := len36_le (Bool.and_eq_true_iff.1 h).1
theorem okT_mem {l : List SPT} (h : okT l = true) {t : SPT} (ht : t ∈ l) : t.2.2.2.length ≤ 68719476736 := len36_le (List.all_eq_true.1 (Bool.and_eq_true_iff.1 h).2 t ht)
theorem rctb_0 (ts : List SPT) : ∀ (r : List SPT) (out : List SPT) (k : Nat), (∀ t ∈ r, t.2.2.2.length ≤ 68719476736) → out.length + r.length ≤ 68719476736 → F_rctb_0 r (ts, out, k) = out ++ r ∧ P_rctb_0 r (ts, out, k) = true
  | [], out, k, _, _ => ⟨by simp [F_rctb_0], rfl⟩
  | u :: r, out, k, hm, hl => by
    simp only [List.length_cons] at hl
    obtain ⟨i1, i2⟩ := rctb_0 ts r (out ++ [u]) (k + 1) (fun t ht => hm t (List.mem_cons_of_mem _ ht)) (by simp; omega)
    have h1 := hm u (List.mem_cons_self ..)
    simp only [F_rctb_0, P_rctb_0, i1, i2, Bool.and_true, Bool.and_eq_true, decide_eq_true_eq, List.length_singleton]
    exact ⟨by simp, by omega, by omega⟩
theorem rctb_P : ∀ a : List SPT, okT a = true → P_rctb a = true := fun a h => by
  simp only [P_rctb, (rctb_0 a a [] 0 (fun t ht => okT_mem h ht) (by simpa using okT_len h)).2, Bool.and_true]; exact decide_eq_true (by have := okT_len h; omega)
theorem rctb_F : ∀ a : List SPT, okT a = true → F_rctb a = (fun a => a) a := fun a h => by
  simp only [F_rctb, (rctb_0 a a [] 0 (fun t ht => okT_mem h ht) (by simpa using okT_len h)).1, List.nil_append]
theorem rctb_run : ∀ a, (okT : (List (SPT)) → Bool) a = true → ∃ f, M_rctb f a = some ((fun a => a : (List (SPT)) → (List (SPT))) a) := fun a h => by have h1 := rctb_auto a (rctb_P a h); rw [rctb_F a h] at h1; exact h1
noncomputable def E_rctb : Ent := ⟨26, [.rd tSPT], [.o 60 4 tSPT], fun a => (okT : (List (SPT)) → Bool) a, fun a => (fun a => a : (List (SPT)) → (List (SPT))) a⟩
theorem E_rctb_ok : E_rctb.Ok Try.prog := fun a hp vs hv => (rctb_run a hp).elim fun f h => fnX_ok (C := C_rctb) (Lt := Lt_rctb) (fn := Try.f26) (rs := [.tmp 2]) [.rd tSPT] [.o 60 4 tSPT] mixed es_rctb Try.func26 rfl rfl rfl (by kernel_rfl) (by kernel_rfl) f h vs hv
instance decPT : DecidableEq SPT := fun a b => decidable_of_iff (a.1 = b.1 ∧ a.2.1 = b.2.1 ∧ a.2.2.1 = b.2.2.1 ∧ a.2.2.2 = b.2.2.2) ⟨fun h => Prod.ext h.1 (Prod.ext h.2.1 (Prod.ext h.2.2.1 h.2.2.2)), fun h => by rw [h]; exact ⟨rfl, rfl, rfl, rfl⟩⟩
end Go.AL
