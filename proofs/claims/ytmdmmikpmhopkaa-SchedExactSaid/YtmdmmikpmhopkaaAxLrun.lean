/-
  THE EXECUTOR: a function that is lent one or two slices, run; its contract. By an AI agent.
-/
import Derived.Test.YtmdmmikpmhopkaaAxKit
import Derived.Test.YtmdmmikpmhopkaaAlFnL
set_option linter.unusedVariables false
set_option linter.unusedSimpArgs false
set_option linter.unusedSectionVars false
namespace Go.AL
def initXL (two : Bool) (ty es : Nat) (τ : List Ty) (ad : List AK) (l l2 : List (RowT τ)) (a : ArgT ad) : XSt :=
 ⟨fun i => nthX (.ref 500 0 :: (argsX ad a ++ (bif two then [.ref 501 0] else []))) i,
  fun p => bif Nat.beq p 500 then some (.t 0 ty es τ l) else bif two && Nat.beq p 501 then some (.t 0 ty es τ l2) else none,1⟩
def lentObs (two : Bool) (ty es : Nat) (rows rows2 : List (List V)) : List Ob := ⟨ty,es,false,rows⟩ :: (bif two then [⟨ty,es,false,rows2⟩] else [])
def lentArgs (two : Bool) (vargs : List V) (rows rows2 : List (List V)) : List V := .ref 500 rows.length :: (vargs ++ (bif two then [.ref 501 rows2.length] else []))
theorem initXL_ok (two : Bool) (ty es : Nat) {τ : List Ty} (ad : List AK) (l l2 : List (RowT τ)) (a : ArgT ad) (vargs : List V) (rows rows2 : List (List V)) (hr : RowsV τ l rows) (hr2 : two = true → RowsV τ l2 rows2) (h : ArgsV ad a vargs) :
  RS (initXL two ty es τ ad l l2 a) (initL (lentArgs two vargs rows rows2) (lentObs two ty es rows rows2)) := by
 have h0 : lentH (lentObs two ty es rows rows2) 500 = some ⟨ty,es,false,rows⟩ := by simp [lentH,lentObs]
 have h1 : two = true → lentH (lentObs two ty es rows rows2) 501 = some ⟨ty,es,false,rows2⟩ := fun e => by subst e; simp [lentH,lentObs]
 have hx0 : (initXL two ty es τ ad l l2 a).h 500 = some (.t 0 ty es τ l) := rfl
 refine ⟨fun i => ?_,fun o xob ho => ?_⟩
 ·show XV ⟨1,(initXL two ty es τ ad l l2 a).h,lentH (lentObs two ty es rows rows2)⟩ (nthX (.ref 500 0 :: (argsX ad a ++ (bif two then [.ref 501 0] else []))) i) (((lentArgs two vargs rows rows2)[i]?).getD (.tup []))
  have hv : XVs ⟨1,(initXL two ty es τ ad l l2 a).h,lentH (lentObs two ty es rows rows2)⟩ (.ref 500 0 :: (argsX ad a ++ (bif two then [.ref 501 0] else []))) (lentArgs two vargs rows rows2) := by
   have hA := argsX_ok (H := ⟨1,(initXL two ty es τ ad l l2 a).h,lentH (lentObs two ty es rows rows2)⟩) ad a vargs h
   have hE : XVs ⟨1,(initXL two ty es τ ad l l2 a).h,lentH (lentObs two ty es rows rows2)⟩ (bif two then [.ref 501 0] else []) (bif two then [.ref 501 rows2.length] else []) := by
    cases two with
    | false => simp only [cond_false,XVs]
    | true =>
     simp only [cond_true,XVs]
     refine ⟨_,[],rfl,?_,rfl⟩
     simp only [XV]
     refine ⟨Nat.one_pos,fun xob hx _ => ⟨_,h1 rfl,rfl⟩⟩
   have happ : ∀ {xs ys : List X} {vs ws : List V} {H : Hps},XVs H xs vs → XVs H ys ws → XVs H (xs ++ ys) (vs ++ ws) := by
    intro xs
    induction xs with
    | nil => intro ys vs ws H h1 h2; simp only [XVs] at h1; subst h1; exact h2
    | cons x xs ih =>
     intro ys vs ws H h1 h2
     simp only [XVs] at h1
     obtain ⟨v,r,rfl,h3,h4⟩ := h1
     simp only [List.cons_append,XVs]
     exact ⟨v,r ++ ws,rfl,h3,ih h4 h2⟩
   simp only [lentArgs,XVs]
   refine ⟨_,_,rfl,?_,happ hA hE⟩
   simp only [XV]
   exact ⟨Nat.one_pos,fun xob hx _ => ⟨_,h0,rfl⟩⟩
  rw [nthX_eq]
  cases hi : (X.ref 500 0 :: (argsX ad a ++ (bif two then [.ref 501 0] else [])))[i]? with
  | none =>
   have hl := hv.len
   have : (lentArgs two vargs rows rows2)[i]? = none := by
    rw [List.getElem?_eq_none_iff] at hi ⊢
    omega
   rw [this]
   simp only [Option.getD_none,XV]
   exact ⟨[],rfl,by simp [XVs]⟩
  | some x =>
   obtain ⟨v,e1,e2⟩ := hv.at i x hi
   rw [e1]
   exact e2
 ·simp only [initXL] at ho
  cases hb : Nat.beq o 500 with
  | true =>
   have := Nat.eq_of_beq_eq_true hb
   subst this
   rw [hb] at ho
   cases ho
   exact ⟨Nat.one_pos,_,h0,rfl,rfl,rfl,hr⟩
  | false =>
   rw [hb] at ho
   simp only [cond_false] at ho
   cases hb2 : (two && Nat.beq o 501) with
   | false => rw [hb2] at ho; cases ho
   | true =>
    obtain ⟨ht,h5⟩ := Bool.and_eq_true_iff.1 hb2
    have := Nat.eq_of_beq_eq_true h5
    subst this
    rw [hb2] at ho
    cases ho
    exact ⟨Nat.one_pos,_,h1 ht,rfl,rfl,rfl,hr2 ht⟩
def KretM (P : Program) (rs : List ResultVar) (rk : List RK) (s : XSt) : Option (ResT rk) := match resVars P s rs with
 | some xs => match ressD s.h rk xs with
  | some (r,f,own) => bif nodupN own && f.isEmpty then some r else none
  | none => none
 | none => none
theorem ressV_len : ∀ (ks : List RK) (r : ResT ks) (rds : List RD),RessV ks r rds → rds.length = ks.length := by
 have key : ∀ (ks : List RK) {A : Type} (Q : A → RD → Prop) (x : ResT.ResT1 A ks) (rds : List RD),RessV1 Q ks x rds → rds.length = ks.length + 1 := by
  intro ks
  induction ks with
  | nil => intro A Q x rds h; simp only [RessV1] at h; obtain ⟨y,rfl,_⟩ := h; rfl
  | cons k ks ih =>
   intro A Q x rds h
   simp only [RessV1] at h
   obtain ⟨y,r',rfl,_,h2⟩ := h
   simp only [List.length_cons,ih _ _ _ h2]
 intro ks r rds h
 cases ks with
 | nil => simp only [RessV] at h; subst h; rfl
 | cons k ks => simp only [RessV] at h; exact key ks _ r rds h
section
variable {xs : XSt} {s : St}
theorem KretM_ok {P : Program} (R : RS xs s) {rs : List ResultVar} {rk : List RK} {r : ResT rk} (h : KretM P rs rk xs = some r) (hk : rk.length ≤ 500) {ls : List Ob} {outs : List (Option (List (List V)))} (hn : ∀ i,outO ls outs i = none) :
  ∃ rds,RessV rk r rds ∧ RetOKL P rs ls rds outs s := by
 unfold KretM at h
 split at h <;> try (cases h; done)
 rename_i l hl
 split at h <;> try (cases h; done)
 rename_i r' f own hg
 obtain ⟨hb,h⟩ := cond_some h
 have := Option.some.inj h
 subst this
 simp only [Bool.and_eq_true] at hb
 have hf : f = [] := by simpa using hb.2
 subst hf
 have h1 := resVars_ok R rs l hl (fun vs => ∃ rds,RessV rk r' rds ∧ (retL s.h vs rds ∧ ((owns vs rds).filterMap id).Nodup ∧ frzs vs rds = [] ∧ outsOK s.h ls outs ((owns vs rds).filterMap id))) (fun vs hvs => by
  obtain ⟨rds,k1,k2,k3,k4⟩ := ressD_ok R rk l r' [] own vs hg hvs
  refine ⟨rds,k1,k2,(nodupN_ok hb.1).sublist k4,List.eq_nil_iff_forall_not_mem.2 fun o ho => by simpa using k3 o ho,fun i ob ob' _ ho => by rw [hn i] at ho; cases ho⟩)
 obtain ⟨rds,h2⟩ := finR_ex rs _ h1
 obtain ⟨h3,h4⟩ := finR_and rs _ h2
 exact ⟨rds,h3,by rw [ressV_len _ _ _ h3]; exact hk,h4⟩
end
theorem fnL_run {β : Type} {C : Cfg} {Lt : Nat → LD} {g : FuncId} {fn : Func} {c : Code} (two : Bool) (ty es : Nat) {τ : List Ty} (ad : List AK) (hm : C.P.follows .mixedOrders = true) (hes : (∀ e ∈ C.es,e.Ok C.P) ∧ (∀ e ∈ C.el,e.Ok C.P) ∧ ∀ d ∈ C.inl,d.Ok C.P) (hz : C.fz = [] ∧ C.inl = [])
  (hL : ∀ b,(Lt b).ln = bif two then 2 else 1)
  (hf : C.P.funcs[g]? = some fn) (hb : fn.body = some c) (hn : fn.ntmps = C.n) (h5 : C.n ≤ 500) (hl : Nat.ble (ad.length + 2) C.n = true) (hc : codeOK C.pm c = true)
  {K : XSt → Option β} {l l2 : List (RowT τ)} {a : ArgT ad} {r : β} (f : Nat) (h : runX C Lt K f [.code c] (initXL two ty es τ ad l l2 a) = some r)
  {rows rows2 : List (List V)} {vargs : List V} (hr : RowsV τ l rows) (hr2 : two = true → RowsV τ l2 rows2) (hv : ArgsV ad a vargs)
  {Pd : List RD → List (Option (List (List V))) → Prop} (hok : ∀ rds outs,Pd rds outs → ∀ rd ∈ rds,rd.ok = true)
  (hK : ∀ xs s,RS xs s → K xs = some r → ∃ rds outs,Pd rds outs ∧ RetOKL C.P fn.results.toList (lentObs two ty es rows rows2) rds outs s) :
  FnL C.P g (lentArgs two vargs rows rows2) (lentObs two ty es rows rows2) Pd := by
 have hlen : (lentArgs two vargs rows rows2).length ≤ fn.ntmps := by
  have h1 := argsV_len ad a vargs hv
  have h2 := Nat.le_of_ble_eq_true hl
  rw [hn]
  cases two <;> simp [lentArgs] <;> omega
 have hll : (lentObs two ty es rows rows2).length = bif two then 2 else 1 := by cases two <;> rfl
 refine fnL_intro' hf hb hlen (by rw [hn]; exact h5) (by rw [hll]; cases two <;> decide) hok (fun w0 β0 A0 a0 w hR => ?_)
 rw [hn] at hR ⊢
 have hq : ∀ o,(ImpL (lentObs two ty es rows rows2) β0).q o → 500 ≤ o ∧ o < 500 + (bif two then 2 else 1) := by
  rintro o ⟨i,ob,rfl,hi⟩
  have := (List.getElem?_eq_some_iff.1 hi).1
  rw [hll] at this
  omega
 have h1 := runX_sound (w0 := w0) (I := ImpL (lentObs two ty es rows rows2) β0) (A0 := A0) (Rt := fun a' w' => ∃ s',(∃ rds outs,Pd rds outs ∧ RetOKL C.P fn.results.toList (lentObs two ty es rows rows2) rds outs s') ∧ RR w0 (ImpL (lentObs two ty es rows rows2) β0) A0 C.n s' a' w') (.inr hz.1) (.inl hz.2)
  (fun b => .inr ⟨by rw [hL]; cases two <;> decide,by rw [hL]; exact hq⟩) hm hes
  (fun xs s R h a w hR => ⟨s,hK xs s R h,hR⟩) f [.code c] _ _ (initXL_ok two ty es ad l l2 a vargs rows rows2 hr hr2 hv) ⟨hc,trivial⟩ trivial h a0 w hR
 refine wp_mono (show c.wp C.P _ a0 w from h1) ?_
 intro e a' w' hq
 rcases KW_other hq with rfl | rfl | ⟨id,rfl⟩
 ·exact ⟨.inl rfl,hq⟩
 ·rw [KW_ret] at hq; exact ⟨.inr rfl,hq⟩
 ·exact hq.elim
section
variable {C : Cfg} {Lt : Nat → LD} {fn : Func} {c : Code} {rs : List ResultVar}
theorem entL_mv (e : EntL) (P : Program) (hP : C.P = P) (hmv : e.mv = true) (htwo : e.two = false) (hm : C.P.follows .mixedOrders = true) (hes : (∀ e ∈ C.es,e.Ok C.P) ∧ (∀ e ∈ C.el,e.Ok C.P) ∧ ∀ d ∈ C.inl,d.Ok C.P) (hz : C.fz = [] ∧ C.inl = [])
  (hL : ∀ b,(Lt b).ln = 1) (hf : C.P.funcs[e.g]? = some fn) (hb : fn.body = some c) (hn : fn.ntmps = C.n) (hr : fn.results.toList = rs) (h5 : C.n ≤ 500) (hl : Nat.ble (e.ad.length + 2) C.n = true) (hc : codeOK C.pm c = true) (hk : e.rk.length ≤ 500)
  (h : ∀ l a,e.pre l [] a = true → ∃ f,runX C Lt (KretM C.P rs e.rk) f [.code c] (initXL false e.ty e.es e.τ e.ad l [] a) = some (e.fn l [] a).1) : e.Ok P := by
 subst hP hr
 unfold EntL.Ok
 rw [if_neg (by rw [htwo]; decide)]
 intro l a hp rows vargs hrows hv
 obtain ⟨f,hf'⟩ := h l a hp
 have := fnL_run false e.ty e.es e.ad hm hes hz hL hf hb hn h5 hl hc f hf' (rows2 := []) hrows (fun h => by cases h) hv (Pd := e.Pd l [] a rows) (fun rds outs h => resOK e.rk _ rds h.1)
  (fun xs s R h => by
   obtain ⟨rds,k1,k4⟩ := KretM_ok R h hk (ls := lentObs false e.ty e.es rows []) (outs := [none]) (fun i => by unfold outO; cases i <;> simp)
   refine ⟨rds,[none],⟨k1,?_⟩,k4⟩
   rw [if_neg (by rw [htwo]; decide),if_pos hmv])
 simpa [lentArgs,lentObs] using this
end
end Go.AL
