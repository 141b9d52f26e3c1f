/-
  Layer 30 (sched): Tick's contract. By an AI agent.
-/
import Derived.Test.YtmdmmikpmhopkaaK16
set_option linter.unusedVariables false
set_option linter.unusedSimpArgs false
namespace Go.AL
open Go.Proofs
set_option maxHeartbeats 4000000
def renS (n : Int) (d : SDs) : SDs := bif decide (dW d = 0) && decide (dDl d = n) then (dId d,dW d,dPer d,dBud d,dBlk d,dDis d,dRem d,dDl d + dPer d,dBud d,dPas d,ups d) else d
theorem tckL_eq (n : Int) : ∀ l : List SDs,tckL n l = (l.filter fun d => !goneS d n).map (renS n)
 | [] => rfl
 | d :: r => by
  have hg : goneS d n = (decide (dW d = 0) && dRem d && decide (dDl d = n)) := rfl
  rw [tckL,tckL_eq n r]
  unfold tckD
  cases h1 : decide (dW d = 0) <;> cases h2 : decide (dDl d = n) <;> cases h3 : dRem d <;> rw [h1,h2,h3] at hg <;> simp only [Bool.and_true,Bool.true_and,Bool.and_false,Bool.false_and] at hg <;>
   simp only [List.filter_cons,hg,Bool.not_true,Bool.not_false,Bool.and_self,Bool.and_false,Bool.false_and,Bool.and_true,Bool.true_and,cond_true,cond_false,if_true,if_false,Bool.false_eq_true,List.map_cons,renS,h1,h2,List.cons_append,List.nil_append,h3]
theorem set_getD {l : List SDs} {k : Nat} (h : k < l.length) (r : SDs) : (l.set k r).getD k zQ = r := by
 rw [List.getD_eq_getElem?_getD,List.getElem?_set_self h]; rfl
theorem tic_0 (x : SSd) (id en ev n v : Int) : ∀ (m : Nat) (l : List SDs) (j : Nat),l.length - j = m → j ≤ l.length → l.length ≤ 1000 → (∀ d ∈ l.drop j,dW d = 0 → -1000000 ≤ dDl d + dPer d ∧ dDl d + dPer d ≤ 4611686018427387904) →
  ∃ f,L_tic_0 f (x,id,en,ev,(n,v,l),((l.length : Nat) : Int),((j : Nat) : Int)) = some ((n,v,l.take j ++ (l.drop j).map (renS n)),id,en,ev,0)
 | 0,l,j,hm,hj,hl,hd => by
  refine ⟨1,?_⟩
  rw [L_tic_0_eq,decide_eq_false (show ¬ ((j : Nat) : Int) < ((l.length : Nat) : Int) by omega),cond_false,List.drop_eq_nil_of_le (by omega),List.take_of_length_le (by omega)]
  simp
 | m + 1,l,j,hm,hj,hl,hd => by
  have hjl : j < l.length := by omega
  obtain ⟨d,hdj⟩ : ∃ d,l[j]? = some d := ⟨_,List.getElem?_eq_getElem hjl⟩
  have hdr : l.drop j = d :: l.drop (j + 1) := by
   rw [List.drop_eq_getElem_cons hjl]; congr 1; exact (List.getElem?_eq_some_iff.1 hdj).2
  have hg : l.getD j zQ = d := by rw [List.getD_eq_getElem?_getD,hdj]; rfl
  have hw : IntKind.i64.wrap (((j : Nat) : Int) + 1) = ((j + 1 : Nat) : Int) := by rw [i64_id (by omega) (by omega)]; rfl
  have h1 : decide (((j : Nat) : Int) < ((l.length : Nat) : Int)) = true := decide_eq_true (by omega)
  have h0 : decide ((0 : Int) ≤ ((j : Nat) : Int)) = true := decide_eq_true (by omega)
  have htk : ∀ r : SDs,(l.set j r).take (j + 1) = l.take j ++ [r] := fun r => by
   rw [List.take_add_one,List.take_set_of_le (Nat.le_refl _),List.getElem?_set_self hjl]; rfl
  have htk0 : l.take (j + 1) = l.take j ++ [d] := by rw [List.take_add_one,hdj]; rfl
  have same : renS n d = d → ∃ f,L_tic_0 f (x,id,en,ev,(n,v,l),((l.length : Nat) : Int),((j + 1 : Nat) : Int)) = some ((n,v,l.take j ++ (l.drop j).map (renS n)),id,en,ev,0) := fun hr => by
   obtain ⟨f,hf⟩ := tic_0 x id en ev n v m l (j + 1) (by omega) (by omega) hl (fun e he => hd e (by rw [hdr]; exact List.mem_cons_of_mem _ he))
   refine ⟨f,?_⟩
   rw [hf,hdr,List.map_cons,hr,htk0,List.append_assoc]; rfl
  have hdm : d ∈ l.drop j := by rw [hdr]; exact List.mem_cons_self ..
  cases hW : decide (d.2.1 = 0) with
  | false =>
   obtain ⟨f,hf⟩ := same (by simp only [renS,dW,hW,Bool.false_and,cond_false])
   refine ⟨f + 1,?_⟩
   rw [L_tic_0_eq]
   simp only [Int.toNat_natCast,h1,h0,hg,beqD,hW,hw,Bool.and_self,cond_true,cond_false]
   exact hf
  | true =>
   cases hD : decide (d.2.2.2.2.2.2.2.1 = n) with
   | false =>
    obtain ⟨f,hf⟩ := same (by simp only [renS,dW,dDl,hW,hD,Bool.and_false,cond_false])
    refine ⟨f + 1,?_⟩
    rw [L_tic_0_eq]
    simp only [Int.toNat_natCast,h1,h0,hg,beqD,hW,hD,hw,Bool.and_self,cond_true,cond_false]
    exact hf
   | true =>
    have hb := hd d hdm (of_decide_eq_true hW)
    simp only [dDl,dPer] at hb
    have hwp : IntKind.i64.wrap (d.2.2.2.2.2.2.2.1 + d.2.2.1) = d.2.2.2.2.2.2.2.1 + d.2.2.1 := i64_id (by omega) (by omega)
    obtain ⟨f,hf⟩ := tic_0 x id en ev n v m (l.set j (renS n d)) (j + 1) (by simp; omega) (by simp; omega) (by simpa using hl) (fun e he => by
     rw [List.drop_set_of_lt (by omega)] at he
     exact hd e (by rw [hdr]; exact List.mem_cons_of_mem _ he))
    refine ⟨f + 1,?_⟩
    rw [L_tic_0_eq]
    simp only [Int.toNat_natCast,h1,h0,hg,beqD,hW,hD,hw,hwp,Bool.and_self,cond_true,cond_false,set_getD hjl,List.set_set]
    have e1 : ∀ y : SDs,y = renS n d → L_tic_0 f (x,id,en,ev,(n,v,l.set j y),((l.length : Nat) : Int),((j + 1 : Nat) : Int)) = some ((n,v,l.take j ++ (l.drop j).map (renS n)),id,en,ev,0) := fun y hy => by
     rw [hy]
     rw [List.length_set] at hf
     rw [hf,hdr,List.map_cons,htk,List.drop_set_of_lt (by omega),List.append_assoc]; rfl
    exact e1 _ (by simp only [renS,dW,dDl,hW,hD,Bool.and_self,cond_true,upT,upH,dId,dPer,dBud,dBlk,dDis,dRem,dLft,dPas,ups])
theorem tic_lim {s : SSd} (h : okD s = true) (f : Nat) (hv : valS s = true) (hl : (decide (s.1 = 1099511627776) || decide (s.2.1 > 1125899906842624 - 2520)) = true) : M_tic (f + 1) s = some (tckS s) := by
 (rw [M_tic_eq]; delta qa1 qa2 qa3 qa4 qa5 qa6 qa7 qa8 qa9 qa10 qa11 qa12)
 unfold tckS
 rw [hv,hl]
 have e : decide (s.2.1 > 1125899906840104) = decide (s.2.1 > 1125899906842624 - 2520) := rfl
 simp only [Bool.not_true,cond_false,cond_true,beqD,e,zSs]
 cases h1 : decide (s.1 = 1099511627776) with
 | true => rfl
 | false =>
  rw [h1,Bool.false_or] at hl
  rw [hl]; rfl
theorem tic_inv {s : SSd} (f : Nat) (hv : valS s = false) : M_tic (f + 1) s = some (tckS s) := by
 (rw [M_tic_eq]; delta qa1 qa2 qa3 qa4 qa5 qa6 qa7 qa8 qa9 qa10 qa11 qa12)
 unfold tckS
 rw [hv]
 rfl
noncomputable abbrev ticL (f : Nat) (s : SSd) (r : List SDs × Int × Int × Int × Int) : Option (SSd × Int × Int × Int × Int) :=
 L_tic_0 f ((0,0,[]),r.2.2.1,r.2.2.2.1,r.2.2.2.2,(s.1 + 1,r.2.1,r.1.filter fun d => !goneS d (s.1 + 1)),((((r.1.filter fun d => !goneS d (s.1 + 1)).length : Nat) : Int)),0)
theorem tic_step {s : SSd} (h : okD s = true) (f : Nat) (hv : valS s = true) (hl : (decide (s.1 = 1099511627776) || decide (s.2.1 > 1125899906842624 - 2520)) = false) : M_tic (f + 1) s = ticL f s (runS s) := by
 have V := (valS_iff s).1 hv
 rw [Bool.or_eq_false_iff] at hl
 have hr := V.rng
 simp only [rngB,Bool.and_eq_true,decide_eq_true_eq] at hr
 have h3 : decide (s.2.1 > 1125899906840104) = false := hl.2
 have hw : IntKind.i64.wrap (s.1 + 1) = s.1 + 1 := i64_id (by omega) (by omega)
 have hlen : len40n s.2.2 = true := decide_eq_true (by have := V.len; omega)
 (rw [M_tic_eq]; delta qa1 qa2 qa3 qa4 qa5 qa6 qa7 qa8 qa9 qa10 qa11 qa12)
 simp only [hv,beqD,hl.1,h3,h,hlen,Bool.not_true,cond_false,cond_true,hw]
 have hset : ∀ (k : Nat) (r : SDs),len40n (s.2.2.set k r) = true := fun k r => by unfold len40n; rw [List.length_set]; exact hlen
 have bR := fst_best mayR dDl s.2.2
 have bB := fst_best mayB dPas s.2.2
 have hch : chS s.2.2 = bif decide (fstL mayR dDl s.2.2 s.2.2 0 (-1) < 0) then fstL mayB dPas s.2.2 s.2.2 0 (-1) else fstL mayR dDl s.2.2 s.2.2 0 (-1) := rfl
 generalize fstL mayR dDl s.2.2 s.2.2 0 (-1) = kR at *
 generalize fstL mayB dPas s.2.2 s.2.2 0 (-1) = kB at *
 have nf : decide ((-1 : Int) ≥ 0) = false := rfl
 rcases ch_best s.2.2 with ⟨e0,e1,e2⟩ | ⟨A,d,B,e1,e2,e3,e4⟩ | ⟨A,d,B,e1,e2,e3,e4,e5⟩
 ·have hR : kR = -1 := by
   rcases bR with h | ⟨A,d,B,g1,g2,g3,g4⟩
   ·exact h.1
   ·have := (e2 d (by rw [g1]; simp)).1; rw [this] at g3; cases g3
  subst hR
  have hB : kB = -1 := by
   rcases bB with h | ⟨A,d,B,g1,g2,g3,g4⟩
   ·exact h.1
   ·have := (e2 d (by rw [g1]; simp)).2; rw [this] at g3; cases g3
  subst hB
  simp only [nf,cond_false]
  unfold ticL runS
  rw [decide_eq_true e0]
  rfl
 ·have hR : kR = ((A.length : Nat) : Int) := by
   rcases bR with ⟨h1,h2⟩ | ⟨A',d',B',g1,g2,g3,g4⟩
   ·rw [h2 d (by rw [e1]; simp)] at e3; cases e3
   ·rw [decide_eq_false (by omega)] at hch
    rw [← e2,hch]; rfl
  subst hR
  have hk : A.length < s.2.2.length := by rw [e1]; simp
  have hg : s.2.2.getD A.length zQ = d := by rw [e1]; simp
  have hg2 : s.2.2.getD A.length zDs = d := hg
  have vd := V.all d (by rw [e1]; simp)
  have k1 : decide (((A.length : Nat) : Int) ≥ 0) = true := decide_eq_true (by omega)
  have k2 : decide ((0 : Int) ≤ ((A.length : Nat) : Int)) = true := decide_eq_true (by omega)
  have k3 : decide (((A.length : Nat) : Int) < ((s.2.2.length : Nat) : Int)) = true := decide_eq_true (by omega)
  have k4 : decide (((A.length : Nat) : Int) < 0) = false := decide_eq_false (by omega)
  simp only [mayR,Bool.and_eq_true,decide_eq_true_eq] at e3
  obtain ⟨w0,w1,w2,w3⟩ := e3
  have hleft : dLft d ≤ 1024 := by
   simp only [vdiS,Bool.and_eq_true] at vd
   obtain ⟨_,_,_,vc⟩ := vd
   simp only [corB,decide_eq_true w0,cond_true,rtB,Bool.and_eq_true,decide_eq_true_eq] at vc
   have := perB_rng vc.2.1
   omega
  have hwl : IntKind.i64.wrap (d.2.2.2.2.2.2.2.2.1 - 1) = d.2.2.2.2.2.2.2.2.1 - 1 := i64_id (by simp only [dLft] at w3; omega) (by simp only [dLft] at hleft; omega)
  simp only [k1,k2,k3,Bool.and_self,cond_true,Int.toNat_natCast,hg,hwl,set_getD hk,List.set_set,List.length_set,hset]
  unfold ticL runS
  rw [e2,k4,Int.toNat_natCast,hg2]
  have w0' : decide (dW d = 0) = true := decide_eq_true w0
  clear e1 e4 bR bB hch hg hg2 vd w1 w2 w3 hleft hwl w0
  obtain ⟨d1,d2,d3,d4,d5,d6,d7,d8,d9,d10,d11⟩ := d
  simp only [dW] at w0'
  simp only [chgD,entD,upT,upH,upS,dId,dW,dPer,dBud,dBlk,dDis,dRem,dDl,dLft,dPas,ups,w0',cond_true,cond_false]
  cases d6 with
  | true => rfl
  | false =>
   simp only [cond_false]
   cases d11 with
   | nil => rfl
   | cons e r =>
    have hz : (0 : Int) < (((e :: r).length : Nat) : Int) := by simp only [List.length_cons]; omega
    exact (bif_pos hz).trans ((bif_pos hz).trans ((bif_pos (show (1 : Int) ≤ (((e :: r).length : Nat) : Int) by omega)).trans rfl))
 ·have hR : kR = -1 := by
   rcases bR with h | ⟨A',d',B',g1,g2,g3,g4⟩
   ·exact h.1
   ·have := e4 d' (by rw [g1]; simp); rw [this] at g3; cases g3
  subst hR
  have hB : kB = ((A.length : Nat) : Int) := by
   rw [e2] at hch; exact hch.symm
  subst hB
  have hk : A.length < s.2.2.length := by rw [e1]; simp
  have hg : s.2.2.getD A.length zQ = d := by rw [e1]; simp
  have hg2 : s.2.2.getD A.length zDs = d := hg
  have vd := V.all d (by rw [e1]; simp)
  have k1 : decide (((A.length : Nat) : Int) ≥ 0) = true := decide_eq_true (by omega)
  have k2 : decide ((0 : Int) ≤ ((A.length : Nat) : Int)) = true := decide_eq_true (by omega)
  have k3 : decide (((A.length : Nat) : Int) < ((s.2.2.length : Nat) : Int)) = true := decide_eq_true (by omega)
  have k4 : decide (((A.length : Nat) : Int) < 0) = false := decide_eq_false (by omega)
  simp only [mayB,Bool.and_eq_true,Bool.not_eq_true'] at e3
  obtain ⟨w0,w1⟩ := e3
  have hpas : 1 ≤ dW d ∧ dW d ≤ 10 ∧ 0 ≤ dPas d ∧ dPas d ≤ s.2.1 + 2520 := by
   simp only [vdiS,Bool.and_eq_true] at vd
   obtain ⟨_,_,_,vc⟩ := vd
   simp only [corB,w0,cond_false,beB,Bool.and_eq_true,decide_eq_true_eq] at vc
   exact ⟨vc.1,vc.2.1,vc.2.2.1,vc.2.2.2.1⟩
  simp only [dW,dPas] at hpas
  have hq : Int.tdiv 2520 d.2.1 = 2520 / d.2.1 := Int.tdiv_eq_ediv_of_nonneg (by omega)
  have hq1 : 0 ≤ 2520 / d.2.1 := Int.ediv_nonneg (by omega) (by omega)
  have hq2 : 2520 / d.2.1 ≤ 2520 := Int.ediv_le_self _ (by omega)
  have hwq : IntKind.i64.wrap (Int.tdiv 2520 d.2.1) = 2520 / d.2.1 := by rw [hq]; exact i64_id (by omega) (by omega)
  have hwp : IntKind.i64.wrap (d.2.2.2.2.2.2.2.2.2.1 + 2520 / d.2.1) = d.2.2.2.2.2.2.2.2.2.1 + 2520 / d.2.1 := i64_id (by omega) (by omega)
  have hwn : (d.2.1 != 0) = true := by
   have : d.2.1 ≠ 0 := by omega
   simpa using this
  simp only [nf,k1,k2,k3,Bool.and_self,cond_true,cond_false,Int.toNat_natCast,hg,hwn,hwq,hwp,set_getD hk,List.set_set,List.length_set,hset]
  unfold ticL runS
  rw [e2,k4,Int.toNat_natCast,hg2]
  clear e1 e4 e5 bR bB hch hg hg2 vd w1 hpas hwq hwp hwn hq hq1 hq2
  obtain ⟨d1,d2,d3,d4,d5,d6,d7,d8,d9,d10,d11⟩ := d
  simp only [dW] at w0
  simp only [chgD,entD,upT,upH,upS,dId,dW,dPer,dBud,dBlk,dDis,dRem,dDl,dLft,dPas,ups,w0,cond_true,cond_false]
  cases d6 with
  | true => rfl
  | false =>
   simp only [cond_false]
   cases d11 with
   | nil => rfl
   | cons e r =>
    have hz : (0 : Int) < (((e :: r).length : Nat) : Int) := by simp only [List.length_cons]; omega
    exact (bif_pos hz).trans ((bif_pos hz).trans ((bif_pos (show (1 : Int) ≤ (((e :: r).length : Nat) : Int) by omega)).trans rfl))
theorem tic_run : ∀ s : SSd,(okD : SSd → Bool) s = true → ∃ f,M_tic f s = some ((tckS : SSd → SSd × Int × Int × Int × Int) s) := fun s h => by
 cases hv : valS s with
 | false => exact ⟨1,tic_inv 0 hv⟩
 | true =>
  cases hl : (decide (s.1 = 1099511627776) || decide (s.2.1 > 1125899906842624 - 2520)) with
  | true => exact ⟨1,tic_lim h 0 hv hl⟩
  | false =>
   have V := (valS_iff s).1 hv
   have hl2 := (Bool.or_eq_false_iff.1 hl).2
   have R := run_val V (by have := of_decide_eq_false hl2; omega)
   have hr := V.rng
   simp only [rngB,Bool.and_eq_true,decide_eq_true_eq] at hr
   obtain ⟨f,hf⟩ := tic_0 (0,0,[]) (runS s).2.2.1 (runS s).2.2.2.1 (runS s).2.2.2.2 (s.1 + 1) (runS s).2.1 _ ((runS s).1.filter fun d => !goneS d (s.1 + 1)) 0 rfl (Nat.zero_le _) (by
     have := List.length_filter_le (fun d => !goneS d (s.1 + 1)) (runS s).1
     have := R.1.len
     omega) (fun d hd hw => by
     have vd := R.1.all d (List.mem_filter.1 hd).1
     simp only [vdiS,Bool.and_eq_true] at vd
     obtain ⟨_,_,_,vc⟩ := vd
     simp only [corB,decide_eq_true hw,cond_true,rtB,Bool.and_eq_true,decide_eq_true_eq] at vc
     have := perB_rng vc.2.1
     omega)
   refine ⟨f + 1,?_⟩
   rw [tic_step h f hv hl]
   refine hf.trans ?_
   unfold tckS
   rw [hv,hl]
   simp only [List.take_zero,List.drop_zero,List.nil_append,Bool.not_true,cond_false,tckL_eq]
noncomputable def E_tic : Ent := ⟨14,[.g tSSd],[.g tSSd,.v (.int .i64),.v (.int .i64),.v (.int .i64),.v (.int .i64)],fun a => (okD : SSd → Bool) a,fun a => (tckS : SSd → SSd × Int × Int × Int × Int) a⟩
theorem E_tic_ok : E_tic.Ok Try.prog := fun a hp vs hv => (tic_run a hp).elim fun f h => fnX_ok (C := C_tic) (Lt := Lt_tic) (fn := Try.f14) (rs := [.cell 2 26,.tmp 3,.tmp 4,.tmp 5,.tmp 6]) [.g tSSd] [.g tSSd,.v (.int .i64),.v (.int .i64),.v (.int .i64),.v (.int .i64)] mixed es_tic Try.func14 rfl rfl rfl (by kernel_rfl) (by kernel_rfl) f h vs hv
end Go.AL
