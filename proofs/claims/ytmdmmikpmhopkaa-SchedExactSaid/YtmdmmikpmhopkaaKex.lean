/-
  Layer 30 (sched): SchedExact. By an AI agent.
-/
import Derived.Test.YtmdmmikpmhopkaaK25
import Derived.Test.YtmdmmikpmhopkaaK19
import Derived.Test.YtmdmmikpmhopkaaKc6
import Derived.Test.YtmdmmikpmhopkaaKz
set_option linter.unusedVariables false
set_option linter.unusedSimpArgs false
namespace Go.AL
open Go.Proofs
set_option maxHeartbeats 4000000
noncomputable def C_sex : Cfg := ⟨Try.prog,[E_few,E_awk,E_cps,E_add,E_rad,E_sam,E_val,E_rva,E_rem,E_rrm,E_blk,E_rbl,E_wak,E_rwa,E_pst,E_rps,E_ena,E_rea,E_tic,E_rtk],pmT [(6,([(0,[]),(1,[]),(2,[]),(3,[]),(4,[]),(5,[]),(6,[]),(7,[]),(8,[]),(9,[]),(10,[]),(12,[]),(11,[]),(13,[]),(14,[]),(15,[])],[(48,63)]))],218,[],[],[],[]⟩
theorem es_sex : EsOk Try.prog [E_few,E_awk,E_cps,E_add,E_rad,E_sam,E_val,E_rva,E_rem,E_rrm,E_blk,E_rbl,E_wak,E_rwa,E_pst,E_rps,E_ena,E_rea,E_tic,E_rtk] [] [] := es_cons E_few_ok (es_cons E_awk_ok (es_cons E_cps_ok (es_cons E_add_ok (es_cons E_rad_ok (es_cons E_sam_ok (es_cons E_val_ok (es_cons E_rva_ok (es_cons E_rem_ok (es_cons E_rrm_ok (es_cons E_blk_ok (es_cons E_rbl_ok (es_cons E_wak_ok (es_cons E_rwa_ok (es_cons E_pst_ok (es_cons E_rps_ok (es_cons E_ena_ok (es_cons E_rea_ok (es_cons E_tic_ok (es_cons E_rtk_ok (es_nil))))))))))))))))))))
def Lt_sex : Nat → LD := ldT []
noncomputable def M_sex (f : Nat) (a : SSd × Int × Int × Int × Int × Int) : Option (Bool) := (runX (C_sex) Lt_sex (Kret Try.prog [.tmp 12] [.v (.bool)]) f [.code (bodyOf Try.f5)] (initX [.g tSSd,.c (.int .i64),.c (.int .i64),.c (.int .i64),.c (.int .i64),.c (.int .i64)] a) : Option (ResT [.v (.bool)]))
theorem M_sex_eq (f : Nat) (s : SSd) (id : Int) (weight : Int) (period : Int) (budget : Int) (event : Int) : M_sex (f + 1) (s,id,weight,period,budget,event) =
  bif !F_few s then some true else bif okD s then bif okD s then bif okD s then bif okD (addS (s,id,weight,period,budget)).1 then bif !decide ((addS (s,id,weight,period,budget)).1 = (addS (s,id,weight,period,budget)).1) then some false else bif (addS (s,id,weight,period,budget)).2 != (addS (s,id,weight,period,budget)).2 then some false else bif valS s != valS s then some false else bif okD s then bif okD s then bif okD (chgS s id remF).1 then bif !decide ((chgS s id remF).1 = (chgS s id remF).1) then some false else bif (chgS s id remF).2 != (chgS s id remF).2 then some false else bif okD s then bif okD s then bif okD (chgS s id blkF).1 then bif !decide ((chgS s id blkF).1 = (chgS s id blkF).1) then some false else bif (chgS s id blkF).2 != (chgS s id blkF).2 then some false else bif okD s then bif okD s then bif okD (chgS s id (wakF s)).1 then bif !decide ((chgS s id (wakF s)).1 = (chgS s id (wakF s)).1) then some false else bif (chgS s id (wakF s)).2 != (chgS s id (wakF s)).2 then some false else bif okD s then bif okD s then bif okD (chgS s id (pstF event)).1 then bif !decide ((chgS s id (pstF event)).1 = (chgS s id (pstF event)).1) then some false else bif (chgS s id (pstF event)).2 != (chgS s id (pstF event)).2 then some false else bif okD s then bif okD s then bif okD (chgS s id enaF).1 then bif !decide ((chgS s id enaF).1 = (chgS s id enaF).1) then some false else bif (chgS s id enaF).2 != (chgS s id enaF).2 then some false else bif okD s then bif okD s then bif okD (tckS s).1 then bif decide ((tckS s).1 = (tckS s).1) then bif (tckS s).2.1 == (tckS s).2.1 then bif (tckS s).2.2.1 == (tckS s).2.2.1 then bif (tckS s).2.2.2.1 == (tckS s).2.2.2.1 then bif (tckS s).2.2.2.2 == (tckS s).2.2.2.2 then bif okD s then bif decide (s = s) then some true else some false else none else some false else some false else some false else some false else some false else none else none else none else none else none else none else none else none else none else none else none else none else none else none else none else none else none else none else none else none else none else none := by kernel_rfl
noncomputable def F_sex : (SSd × Int × Int × Int × Int × Int) → Bool
 | (s,id,weight,period,budget,event) => bif !F_few s then true else bif !decide ((addS (s,id,weight,period,budget)).1 = (addS (s,id,weight,period,budget)).1) then false else bif (addS (s,id,weight,period,budget)).2 != (addS (s,id,weight,period,budget)).2 then false else bif valS s != valS s then false else bif !decide ((chgS s id remF).1 = (chgS s id remF).1) then false else bif (chgS s id remF).2 != (chgS s id remF).2 then false else bif !decide ((chgS s id blkF).1 = (chgS s id blkF).1) then false else bif (chgS s id blkF).2 != (chgS s id blkF).2 then false else bif !decide ((chgS s id (wakF s)).1 = (chgS s id (wakF s)).1) then false else bif (chgS s id (wakF s)).2 != (chgS s id (wakF s)).2 then false else bif !decide ((chgS s id (pstF event)).1 = (chgS s id (pstF event)).1) then false else bif (chgS s id (pstF event)).2 != (chgS s id (pstF event)).2 then false else bif !decide ((chgS s id enaF).1 = (chgS s id enaF).1) then false else bif (chgS s id enaF).2 != (chgS s id enaF).2 then false else bif decide ((tckS s).1 = (tckS s).1) then bif (tckS s).2.1 == (tckS s).2.1 then bif (tckS s).2.2.1 == (tckS s).2.2.1 then bif (tckS s).2.2.2.1 == (tckS s).2.2.2.1 then bif (tckS s).2.2.2.2 == (tckS s).2.2.2.2 then bif decide (s = s) then true else false else false else false else false else false else false
noncomputable def P_sex : (SSd × Int × Int × Int × Int × Int) → Bool
 | (s,id,weight,period,budget,event) => bif !F_few s then true else okD s && (okD s && (okD s && (okD (addS (s,id,weight,period,budget)).1 && bif !decide ((addS (s,id,weight,period,budget)).1 = (addS (s,id,weight,period,budget)).1) then true else bif (addS (s,id,weight,period,budget)).2 != (addS (s,id,weight,period,budget)).2 then true else bif valS s != valS s then true else okD s && (okD s && (okD (chgS s id remF).1 && bif !decide ((chgS s id remF).1 = (chgS s id remF).1) then true else bif (chgS s id remF).2 != (chgS s id remF).2 then true else okD s && (okD s && (okD (chgS s id blkF).1 && bif !decide ((chgS s id blkF).1 = (chgS s id blkF).1) then true else bif (chgS s id blkF).2 != (chgS s id blkF).2 then true else okD s && (okD s && (okD (chgS s id (wakF s)).1 && bif !decide ((chgS s id (wakF s)).1 = (chgS s id (wakF s)).1) then true else bif (chgS s id (wakF s)).2 != (chgS s id (wakF s)).2 then true else okD s && (okD s && (okD (chgS s id (pstF event)).1 && bif !decide ((chgS s id (pstF event)).1 = (chgS s id (pstF event)).1) then true else bif (chgS s id (pstF event)).2 != (chgS s id (pstF event)).2 then true else okD s && (okD s && (okD (chgS s id enaF).1 && bif !decide ((chgS s id enaF).1 = (chgS s id enaF).1) then true else bif (chgS s id enaF).2 != (chgS s id enaF).2 then true else okD s && (okD s && (okD (tckS s).1 && bif decide ((tckS s).1 = (tckS s).1) then bif (tckS s).2.1 == (tckS s).2.1 then bif (tckS s).2.2.1 == (tckS s).2.2.1 then bif (tckS s).2.2.2.1 == (tckS s).2.2.2.1 then bif (tckS s).2.2.2.2 == (tckS s).2.2.2.2 then okD s else true else true else true else true else true)))))))))))))))
theorem sex_auto : ∀ a : SSd × Int × Int × Int × Int × Int,Rns (fun f => M_sex f a) (P_sex a) (F_sex a)
 | (s,id,weight,period,budget,event) => ev_step (fun f => M_sex_eq f _ _ _ _ _ _) (ev_bif ev_some (ev_chk (ev_chk (ev_chk (ev_chk (ev_bif ev_some (ev_bif ev_some (ev_bif ev_some (ev_chk (ev_chk (ev_chk (ev_bif ev_some (ev_bif ev_some (ev_chk (ev_chk (ev_chk (ev_bif ev_some (ev_bif ev_some (ev_chk (ev_chk (ev_chk (ev_bif ev_some (ev_bif ev_some (ev_chk (ev_chk (ev_chk (ev_bif ev_some (ev_bif ev_some (ev_chk (ev_chk (ev_chk (ev_bif ev_some (ev_bif ev_some (ev_chk (ev_chk (ev_chk (ev_bif (ev_bif (ev_bif (ev_bif (ev_bif (ev_chk1 (ev_bift ev_some ev_some)) ev_some) ev_some) ev_some) ev_some) ev_some)))))))))))))))))))))))))))))))))))))
theorem zS_ok : okD zSs = true := by decide +kernel
theorem addS_ok (a : SSd × Int × Int × Int × Int) : okD (addS a).1 = true := by
 by_cases h : (addS a).2 = 0
 ·exact val_ok (add_val a h).1
 ·rw [add_err h]; exact zS_ok
theorem chgS_ok {s : SSd} {id : Int} {f : SDs → List SDs × Int} (hf : ∀ d,d ∈ s.2.2 → dRem d = false → vdiS (d,s.1,s.2.1) = true → (f d).2 = 0 → RepOK s.1 s.2.1 d (f d).1) : okD (chgS s id f).1 = true := by
 by_cases h : (chgS s id f).2 = 0
 ·exact val_ok (chg_val hf h).1
 ·rw [chg_err h]; exact zS_ok
theorem tckS_ok (s : SSd) : okD (tckS s).1 = true := by
 cases hv : valS s with
 | false =>
  have e : (tckS s).1 = zSs := by unfold tckS; rw [hv]; rfl
  rw [e]; exact zS_ok
 | true =>
  have V := (valS_iff s).1 hv
  have hr := V.rng
  simp only [rngB,Bool.and_eq_true,decide_eq_true_eq] at hr
  cases hb : (decide (s.1 = 1099511627776) || decide (s.2.1 > 1125899906842624 - 2520)) with
  | true =>
   have e : (tckS s).1 = zSs := by unfold tckS; rw [hv,hb]; rfl
   rw [e]; exact zS_ok
  | false =>
   rw [Bool.or_eq_false_iff] at hb
   have h1 := of_decide_eq_false hb.1
   have h2 := of_decide_eq_false hb.2
   exact val_ok (tck_val hv (by omega) (by omega)).2.1
theorem sex_both : ∀ a : SSd × Int × Int × Int × Int × Int,P_sex a = true ∧ F_sex a = true := fun (s,id,weight,period,budget,event) => by
 cases hf : F_few s with
 | false => simp only [P_sex,F_sex,hf,Bool.not_false,cond_true]; exact ⟨trivial,trivial⟩
 | true =>
  have h : okD s = true := by
   obtain ⟨h1,h2⟩ := few_ok hf
   exact okD_mk (by omega) (fun d hd => by have := h2 d hd; omega)
  have k1 := addS_ok (s,id,weight,period,budget)
  have k2 : okD (chgS s id remF).1 = true := chgS_ok (fun d _ _ hv _ => rem_ok hv)
  have k3 : okD (chgS s id blkF).1 = true := chgS_ok (fun d _ _ hv _ => blk_ok hv)
  have k4 : okD (chgS s id (wakF s)).1 = true := chgS_ok (fun d _ _ hv _ => wak_ok hv)
  have k5 : okD (chgS s id (pstF event)).1 = true := chgS_ok (fun d _ hr hv hz => pst_ok hv hr hz)
  have k6 : okD (chgS s id enaF).1 = true := chgS_ok (fun d _ hr hv _ => ena_ok hv hr)
  have k7 := tckS_ok s
  simp only [P_sex,F_sex,hf,h,k1,k2,k3,k4,k5,k6,k7,beqD,bneD,decide_true,Bool.not_true,cond_true,cond_false,Bool.and_self,Bool.true_and]
  exact ⟨trivial,trivial⟩
theorem sex_true : ∀ a : SSd × Int × Int × Int × Int × Int,∃ f,M_sex f a = some true := fun a => by
 obtain ⟨h1,h2⟩ := sex_both a
 have := (sex_auto a) h1
 obtain ⟨f,hf⟩ := this
 exact ⟨f,hf.trans (by rw [h2])⟩
end Go.AL
