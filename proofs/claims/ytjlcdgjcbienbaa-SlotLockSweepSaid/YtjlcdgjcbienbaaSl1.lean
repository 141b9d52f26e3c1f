/-
  SlotReserveExact, SlotPutExact and SlotLockExact return true at every input and leave their arguments as they were; no condition. By an AI agent.
-/
import Derived.Test.YtjlcdgjcbienbaaG6
namespace Go.AL
open Go.Proofs
set_option linter.unusedVariables false
set_option linter.unusedSimpArgs false
noncomputable def C_awake : Cfg := ⟨Try.prog, [E_res, E_page, E_put, E_rel, E_bus, E_emp, E_cval], pmT [], 57⟩
theorem es_awake : EsOk Try.prog [E_res, E_page, E_put, E_rel, E_bus, E_emp, E_cval] := es_cons E_res_ok (es_cons E_page_ok (es_cons E_put_ok (es_cons E_rel_ok (es_cons E_bus_ok (es_cons E_emp_ok (es_cons E_cval_ok (es_nil)))))))
def Lt_awake : Nat → LD := ldT []
noncomputable def M_awake (f : Nat) (a : Unit) : Option (Bool) := (runX (C_awake) Lt_awake (Kret Try.prog [.tmp 0] [.v (.bool)]) f [.code (bodyOf Try.f13)] (initX [] a) : Option (ResT [.v (.bool)]))
theorem M_awake_eq (f : Nat)  : M_awake (f + 1) () =
    some (cvalS (relS ((putS ((resS (List.replicate (Int.toNat 3) (0, 0, 0, [], 0, 0, 0, 0, 0, 0, false, 0, 0, 0, 0), [1], 7)).1, 1, 0, 1, 0, [], pageC)).1, 7))) := by kernel_rfl
noncomputable def F_awake : Unit → Bool
  | () => cvalS (relS ((putS ((resS (List.replicate (Int.toNat 3) (0, 0, 0, [], 0, 0, 0, 0, 0, 0, false, 0, 0, 0, 0), [1], 7)).1, 1, 0, 1, 0, [], pageC)).1, 7))
noncomputable def P_awake : Unit → Bool
  | () => true
theorem awake_auto : ∀ a : Unit, Rns (fun f => M_awake f a) (P_awake a) (F_awake a)
  | () => ev_step (fun f => M_awake_eq f ) ev_some
theorem awake_P : ∀ a, (fun _ => true) a = true → P_awake a = true := fun _ _ => rfl
theorem awake_F : ∀ a, (fun _ => true) a = true → F_awake a = (fun _ => true) a := fun _ _ => (by decide +kernel : F_awake () = true)
theorem awake_run : ∀ a, (fun _ => true : Unit → Bool) a = true → ∃ f, M_awake f a = some ((fun _ => true : Unit → Bool) a) := fun a h => by have h1 := awake_auto a (awake_P a h); rw [awake_F a h] at h1; exact h1
noncomputable def E_awake : Ent := ⟨13, [], [.v (.bool)], fun a => (fun _ => true : Unit → Bool) a, fun a => (fun _ => true : Unit → Bool) a⟩
theorem E_awake_ok : E_awake.Ok Try.prog := fun a hp vs hv => (awake_run a hp).elim fun f h => fnX_ok (C := C_awake) (Lt := Lt_awake) (fn := Try.f13) (rs := [.tmp 0]) [] [.v (.bool)] mixed es_awake Try.func13 rfl rfl rfl (by kernel_rfl) (by kernel_rfl) f h vs hv
theorem okSl_map {l : List SSl} (h : okSl l = true) {f : SSl → SSl} (hf : ∀ s ∈ l, (f s).2.2.2.1 = s.2.2.2.1 ∨ (f s).2.2.2.1 = []) : okSl (l.map f) = true :=
  okSl_mk (by rw [List.length_map]; exact okSl_len h) (fun s hs => by
    obtain ⟨x, hx, rfl⟩ := List.mem_map.1 hs
    rcases hf x hx with h1 | h1
    · rw [h1]; exact okSl_mem h hx
    · rw [h1]; rfl)
theorem okSl_set {l : List SSl} (h : okSl l = true) (i : Nat) {s : SSl} (hs : len40n s.2.2.2.1 = true) : okSl (l.set i s) = true :=
  okSl_mk (by rw [List.length_set]; exact okSl_len h) (fun x hx => by
    rcases List.mem_or_eq_of_mem_set hx with h1 | h1
    · exact okSl_mem h h1
    · rw [h1]; exact hs)
theorem okSl_nil : okSl [] = true := rfl
theorem okSl_getD {l : List SSl} (h : okSl l = true) (i : Nat) : len40n (l.getD i zSl).2.2.2.1 = true := by
  rw [List.getD_eq_getElem?_getD]
  cases hi : l[i]? with
  | none => rfl
  | some s => exact okSl_mem h (List.mem_of_getElem? hi)
theorem rsvL_ok (l : List SSl) (op : Int) : ∀ (r : List Int) (out : List SSl), okSl out = true → okSl (rsvL l op r out).1 = true
  | [], out, h => h
  | u :: r, out, h => by
    simp only [rsvL]
    cases busB (l.getD u.toNat zSl)
    · exact rsvL_ok l op r _ (okSl_set h _ (okSl_getD h _))
    · rfl
theorem resS_ok {l : List SSl} (h : okSl l = true) (w : List Int) (op : Int) : okSl (resS (l, w, op)).1 = true := by
  simp only [resS]
  cases decide (op < 1) || (decide (op > 1073741824) || badR ((l.length : Nat) : Int) [] w)
  · exact rsvL_ok l op w l h
  · rfl
theorem relS_ok {l : List SSl} (h : okSl l = true) (op : Int) : okSl (relS (l, op)) = true :=
  okSl_map h (fun s _ => .inl (by simp only [relF]; cases decide (sop s = op) <;> rfl))
theorem locS_ok {l : List SSl} (h : okSl l = true) (ids : List SId) (b : SId) : okSl (locS (l, ids, b)) = true :=
  okSl_map h (fun s _ => .inl (by simp only [locF]; cases !empB s && memD (sid s) ids <;> rfl))
theorem unlS_ok {l : List SSl} (h : okSl l = true) (b : SId) : okSl (unlS (l, b)) = true :=
  okSl_map h (fun s _ => .inl (by simp only [unlF]; cases decide (slk s = b) <;> rfl))
theorem sweS_ok {l : List SSl} (h : okSl l = true) (b : SId) : okSl (sweS (l, b)).1 = true :=
  okSl_map h (fun s _ => by
    simp only [sweF]
    cases sweB b s
    · exact .inl rfl
    · exact .inr rfl)
theorem sweS_len {l : List SSl} (h : okSl l = true) (b : SId) : len40n (sweS (l, b)).2 = true := decide_eq_true (by
  have := okSl_len h
  have h2 := List.length_filter_le (sweB b) l
  simp only [sweS, List.length_map]; omega)
theorem putS_ok {l : List SSl} (h : okSl l = true) (i : Int) (n : SNd) : okSl (putS (l, i, n)).1 = true := by
  simp only [putS]
  cases hv : vnodB n
  · cases decide (i < 0) <;> cases decide (i ≥ ((l.length : Nat) : Int)) <;> rfl
  cases decide (i < 0) || (decide (i ≥ ((l.length : Nat) : Int)) || (!true || decide (findI (hasS (nid n)) l 0 ≥ 0)))
  · cases !empB (l.getD i.toNat zSl)
    · exact okSl_set h _ (decide_eq_true (Nat.le_trans (vnodB_len hv) (by omega)))
    · rfl
  · rfl
theorem takS_ok {l : List SSl} (h : okSl l = true) (i : Int) : okSl (takS (l, i)).1 = true ∧ len40n (takS (l, i)).2.1.2.2.2.1 = true := by
  simp only [takS]
  cases decide (i < 0) || (decide (i ≥ ((l.length : Nat) : Int)) || empB (l.getD i.toNat zSl))
  · exact ⟨okSl_set h _ rfl, okSl_getD h _⟩
  · exact ⟨rfl, rfl⟩
noncomputable def C_rexl : Cfg := ⟨Try.prog, [E_few, E_awake, E_csl, E_res, E_rres, E_ssl, E_rel, E_rrel], pmT [], 57⟩
theorem es_rexl : EsOk Try.prog [E_few, E_awake, E_csl, E_res, E_rres, E_ssl, E_rel, E_rrel] := es_cons E_few_ok (es_cons E_awake_ok (es_cons E_csl_ok (es_cons E_res_ok (es_cons E_rres_ok (es_cons E_ssl_ok (es_cons E_rel_ok (es_cons E_rrel_ok (es_nil))))))))
def Lt_rexl : Nat → LD := ldT []
noncomputable def M_rexl (f : Nat) (a : (List (SSl)) × (List (Int)) × Int) : Option (Bool) := (runX (C_rexl) Lt_rexl (Kret Try.prog [.tmp 6] [.v (.bool)]) f [.code (bodyOf Try.f4)] (initX [.rd tSSl, .rd [.int .i64], .c (.int .i64)] a) : Option (ResT [.v (.bool)]))
theorem M_rexl_eq (f : Nat) (l : List (SSl)) (which : List (Int)) (op : Int) : M_rexl (f + 1) (l, which, op) =
    bif !fewB l then some true else bif decide ((↑which.length : Int) > 70) then some true else bif okSl l then bif decide (which.length * 8 ≤ 140737488355328) then bif resPre (l, which, op) then bif resPre (l, which, op) then bif okSl (resS (l, which, op)).1 then bif decide ((resS (l, which, op)).1 = (resS (l, which, op)).1) then bif (resS (l, which, op)).2 == (resS (l, which, op)).2 then bif okSl l then bif okSl l then bif okSl l then bif okSl (relS (l, op)) then bif decide (relS (l, op) = relS (l, op)) then some true else some false else none else none else none else none else some false else some false else none else none else none else none else none := by kernel_rfl
noncomputable def F_rexl : ((List (SSl)) × (List (Int)) × Int) → Bool
  | (l, which, op) => bif !fewB l then true else bif decide ((↑which.length : Int) > 70) then true else bif decide ((resS (l, which, op)).1 = (resS (l, which, op)).1) then bif (resS (l, which, op)).2 == (resS (l, which, op)).2 then bif decide (relS (l, op) = relS (l, op)) then true else false else false else false
noncomputable def P_rexl : ((List (SSl)) × (List (Int)) × Int) → Bool
  | (l, which, op) => bif !fewB l then true else bif decide ((↑which.length : Int) > 70) then true else okSl l && (decide (which.length * 8 ≤ 140737488355328) && (resPre (l, which, op) && (resPre (l, which, op) && (okSl (resS (l, which, op)).1 && bif decide ((resS (l, which, op)).1 = (resS (l, which, op)).1) then bif (resS (l, which, op)).2 == (resS (l, which, op)).2 then okSl l && (okSl l && (okSl l && okSl (relS (l, op)))) else true else true))))
theorem rexl_auto : ∀ a : (List (SSl)) × (List (Int)) × Int, Rns (fun f => M_rexl f a) (P_rexl a) (F_rexl a)
  | (l, which, op) => ev_step (fun f => M_rexl_eq f _ _ _) (ev_bif ev_some (ev_bif ev_some (ev_chk (ev_chk (ev_chk (ev_chk (ev_chk (ev_bif (ev_bif (ev_chk (ev_chk (ev_chk (ev_chk1 (ev_bift ev_some ev_some))))) ev_some) ev_some))))))))
theorem rexl_true : ∀ a, ∃ f, M_rexl f a = some true := by
  rintro ⟨l, w, op⟩
  have h : P_rexl (l, w, op) = true ∧ F_rexl (l, w, op) = true := by
    simp only [P_rexl, F_rexl]
    cases hf : fewB l
    · exact ⟨rfl, rfl⟩
    have h := few_okSl hf
    by_cases hw : ((w.length : Nat) : Int) > 70
    · simp only [decide_eq_true hw]; exact ⟨rfl, rfl⟩
    have e1 : decide (w.length * 8 ≤ 140737488355328) = true := decide_eq_true (by omega)
    have e2 : resPre (l, w, op) = true := by simp only [resPre, h, Bool.true_and]; exact decide_eq_true (by omega)
    simp [hw, h, e1, e2, resS_ok h, relS_ok h]
  have h1 := rexl_auto (l, w, op) h.1
  rw [h.2] at h1; exact h1
noncomputable def C_pexl : Cfg := ⟨Try.prog, [E_few, E_awake, E_csl, E_cnode, E_put, E_rput, E_tak, E_rtak, E_ssl, E_snode], pmT [(3, ([(0, []), (2, []), (3, []), (1, []), (4, []), (5, []), (6, []), (7, []), (8, []), (9, []), (10, [])], [(7, 8), (27, 35)]))], 84⟩
theorem es_pexl : EsOk Try.prog [E_few, E_awake, E_csl, E_cnode, E_put, E_rput, E_tak, E_rtak, E_ssl, E_snode] := es_cons E_few_ok (es_cons E_awake_ok (es_cons E_csl_ok (es_cons E_cnode_ok (es_cons E_put_ok (es_cons E_rput_ok (es_cons E_tak_ok (es_cons E_rtak_ok (es_cons E_ssl_ok (es_cons E_snode_ok (es_nil))))))))))
def Lt_pexl : Nat → LD := ldT []
noncomputable def M_pexl (f : Nat) (a : (List (SSl)) × Int × SNd) : Option (Bool) := (runX (C_pexl) Lt_pexl (Kret Try.prog [.tmp 6] [.v (.bool)]) f [.code (bodyOf Try.f6)] (initX [.rd tSSl, .c (.int .i64), .g tSNd] a) : Option (ResT [.v (.bool)]))
theorem M_pexl_eq (f : Nat) (l : List (SSl)) (slot : Int) (n : SNd) : M_pexl (f + 1) (l, slot, n) =
    bif !fewB l then some true else bif decide ((↑(List.length n.2.2.2.1) : Int) > 20) then some true else bif okSl l then bif len40n n.2.2.2.1 then bif putPre (l, slot, n) then bif putPre (l, slot, n) then bif okSl l then bif okSl l then bif okSl l then bif okSl (putS (l, slot, n)).1 then bif decide ((putS (l, slot, n)).1 = (putS (l, slot, n)).1) then bif (putS (l, slot, n)).2 == (putS (l, slot, n)).2 then bif okSl (takS (l, slot)).1 then bif decide ((takS (l, slot)).1 = (takS (l, slot)).1) then bif len40n (takS (l, slot)).2.1.2.2.2.1 then bif decide ((takS (l, slot)).2.1 = (takS (l, slot)).2.1) then bif (takS (l, slot)).2.2 == (takS (l, slot)).2.2 then some true else some false else some false else none else some false else none else some false else some false else none else none else none else none else none else none else none else none := by kernel_rfl
noncomputable def F_pexl : ((List (SSl)) × Int × SNd) → Bool
  | (l, slot, n) => bif !fewB l then true else bif decide ((↑(List.length n.2.2.2.1) : Int) > 20) then true else bif decide ((putS (l, slot, n)).1 = (putS (l, slot, n)).1) then bif (putS (l, slot, n)).2 == (putS (l, slot, n)).2 then bif decide ((takS (l, slot)).1 = (takS (l, slot)).1) then bif decide ((takS (l, slot)).2.1 = (takS (l, slot)).2.1) then bif (takS (l, slot)).2.2 == (takS (l, slot)).2.2 then true else false else false else false else false else false
noncomputable def P_pexl : ((List (SSl)) × Int × SNd) → Bool
  | (l, slot, n) => bif !fewB l then true else bif decide ((↑(List.length n.2.2.2.1) : Int) > 20) then true else okSl l && (len40n n.2.2.2.1 && (putPre (l, slot, n) && (putPre (l, slot, n) && (okSl l && (okSl l && (okSl l && (okSl (putS (l, slot, n)).1 && bif decide ((putS (l, slot, n)).1 = (putS (l, slot, n)).1) then bif (putS (l, slot, n)).2 == (putS (l, slot, n)).2 then okSl (takS (l, slot)).1 && bif decide ((takS (l, slot)).1 = (takS (l, slot)).1) then len40n (takS (l, slot)).2.1.2.2.2.1 else true else true else true)))))))
theorem pexl_auto : ∀ a : (List (SSl)) × Int × SNd, Rns (fun f => M_pexl f a) (P_pexl a) (F_pexl a)
  | (l, slot, n) => ev_step (fun f => M_pexl_eq f _ _ _) (ev_bif ev_some (ev_bif ev_some (ev_chk (ev_chk (ev_chk (ev_chk (ev_chk (ev_chk (ev_chk (ev_chk (ev_bif (ev_bif (ev_chk (ev_bif (ev_chk1 (ev_bift (ev_bift ev_some ev_some) ev_some)) ev_some)) ev_some) ev_some)))))))))))
theorem pexl_true : ∀ a, ∃ f, M_pexl f a = some true := by
  rintro ⟨l, i, n⟩
  have h : P_pexl (l, i, n) = true ∧ F_pexl (l, i, n) = true := by
    simp only [P_pexl, F_pexl]
    cases hf : fewB l
    · exact ⟨rfl, rfl⟩
    have h := few_okSl hf
    by_cases hw : ((List.length n.2.2.2.1 : Nat) : Int) > 20
    · simp only [decide_eq_true hw]; exact ⟨rfl, rfl⟩
    have e1 : len40n n.2.2.2.1 = true := decide_eq_true (by omega)
    have e2 : putPre (l, i, n) = true := h
    simp [hw, h, e1, e2, putS_ok h, takS_ok h]
  have h1 := pexl_auto (l, i, n) h.1
  rw [h.2] at h1; exact h1
noncomputable def C_lexl : Cfg := ⟨Try.prog, [E_few, E_awake, E_csl, E_swe, E_rswe, E_cids, E_loc, E_rloc, E_ssl, E_unl, E_runl, E_sids], pmT [(3, ([(0, []), (2, []), (1, []), (3, []), (4, []), (5, []), (6, []), (7, []), (8, [])], [(7, 8), (20, 26)])), (5, ([(0, []), (2, []), (4, []), (6, []), (7, []), (8, []), (1, []), (3, []), (5, []), (9, []), (10, []), (11, []), (12, []), (14, []), (16, []), (17, []), (13, []), (15, []), (18, []), (19, []), (20, []), (21, []), (22, []), (23, []), (24, []), (25, []), (26, []), (27, []), (28, []), (29, []), (30, []), (31, []), (32, []), (33, []), (34, [])], [(6, 6), (33, 66)]))], 67⟩
theorem es_lexl : EsOk Try.prog [E_few, E_awake, E_csl, E_swe, E_rswe, E_cids, E_loc, E_rloc, E_ssl, E_unl, E_runl, E_sids] := es_cons E_few_ok (es_cons E_awake_ok (es_cons E_csl_ok (es_cons E_swe_ok (es_cons E_rswe_ok (es_cons E_cids_ok (es_cons E_loc_ok (es_cons E_rloc_ok (es_cons E_ssl_ok (es_cons E_unl_ok (es_cons E_runl_ok (es_cons E_sids_ok (es_nil))))))))))))
def Lt_lexl : Nat → LD := ldT []
noncomputable def M_lexl (f : Nat) (a : (List (SSl)) × (List (SId)) × SId) : Option (Bool) := (runX (C_lexl) Lt_lexl (Kret Try.prog [.tmp 6] [.v (.bool)]) f [.code (bodyOf Try.f8)] (initX [.rd tSSl, .rd tSId, .g tSId] a) : Option (ResT [.v (.bool)]))
theorem M_lexl_eq (f : Nat) (l : List (SSl)) (ids : List (SId)) (by_ : SId) : M_lexl (f + 1) (l, ids, by_) =
    bif !fewB l then some true else bif decide ((↑ids.length : Int) > 70) then some true else bif okSl l then bif okSl l then bif okSl l then bif okSl l then bif len40n ids then bif locPre (l, ids, by_) then bif locPre (l, ids, by_) then bif okSl (locS (l, ids, by_)) then bif decide (locS (l, ids, by_) = locS (l, ids, by_)) then bif okSl l then bif okSl l then bif okSl l then bif okSl (unlS (l, by_)) then bif decide (unlS (l, by_) = unlS (l, by_)) then bif okSl (sweS (l, by_)).1 then bif decide ((sweS (l, by_)).1 = (sweS (l, by_)).1) then bif len40n (sweS (l, by_)).2 then bif decide ((sweS (l, by_)).2 = (sweS (l, by_)).2) then some true else some false else none else some false else none else some false else none else none else none else none else some false else none else none else none else none else none else none else none else none := by kernel_rfl
noncomputable def F_lexl : ((List (SSl)) × (List (SId)) × SId) → Bool
  | (l, ids, by_) => bif !fewB l then true else bif decide ((↑ids.length : Int) > 70) then true else bif decide (locS (l, ids, by_) = locS (l, ids, by_)) then bif decide (unlS (l, by_) = unlS (l, by_)) then bif decide ((sweS (l, by_)).1 = (sweS (l, by_)).1) then bif decide ((sweS (l, by_)).2 = (sweS (l, by_)).2) then true else false else false else false else false
noncomputable def P_lexl : ((List (SSl)) × (List (SId)) × SId) → Bool
  | (l, ids, by_) => bif !fewB l then true else bif decide ((↑ids.length : Int) > 70) then true else okSl l && (okSl l && (okSl l && (okSl l && (len40n ids && (locPre (l, ids, by_) && (locPre (l, ids, by_) && (okSl (locS (l, ids, by_)) && bif decide (locS (l, ids, by_) = locS (l, ids, by_)) then okSl l && (okSl l && (okSl l && (okSl (unlS (l, by_)) && bif decide (unlS (l, by_) = unlS (l, by_)) then okSl (sweS (l, by_)).1 && bif decide ((sweS (l, by_)).1 = (sweS (l, by_)).1) then len40n (sweS (l, by_)).2 else true else true))) else true)))))))
theorem lexl_auto : ∀ a : (List (SSl)) × (List (SId)) × SId, Rns (fun f => M_lexl f a) (P_lexl a) (F_lexl a)
  | (l, ids, by_) => ev_step (fun f => M_lexl_eq f _ _ _) (ev_bif ev_some (ev_bif ev_some (ev_chk (ev_chk (ev_chk (ev_chk (ev_chk (ev_chk (ev_chk (ev_chk (ev_bif (ev_chk (ev_chk (ev_chk (ev_chk (ev_bif (ev_chk (ev_bif (ev_chk1 (ev_bift ev_some ev_some)) ev_some)) ev_some))))) ev_some)))))))))))
theorem lexl_true : ∀ a, ∃ f, M_lexl f a = some true := by
  rintro ⟨l, ids, b⟩
  have h : P_lexl (l, ids, b) = true ∧ F_lexl (l, ids, b) = true := by
    simp only [P_lexl, F_lexl]
    cases hf : fewB l
    · exact ⟨rfl, rfl⟩
    have h := few_okSl hf
    by_cases hw : ((ids.length : Nat) : Int) > 70
    · simp only [decide_eq_true hw]; exact ⟨rfl, rfl⟩
    have e1 : len40n ids = true := decide_eq_true (by omega)
    have e2 : locPre (l, ids, b) = true := by simp only [locPre, h, e1]; rfl
    simp [hw, h, e1, e2, locS_ok h, unlS_ok h, sweS_ok h, sweS_len h]
  have h1 := lexl_auto (l, ids, b) h.1
  rw [h.2] at h1; exact h1
end Go.AL
