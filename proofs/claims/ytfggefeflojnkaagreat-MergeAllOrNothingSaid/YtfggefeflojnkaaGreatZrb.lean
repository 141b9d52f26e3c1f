/- By an AI agent. -/
import Derived.Test.YtfggefeflojnkaaGreatZn0
import Derived.Test.YtfggefeflojnkaaGreatRows
set_option linter.unusedSimpArgs false
set_option linter.unusedVariables false
set_option linter.unusedSectionVars false
namespace Go.AL
open Go.Proofs
noncomputable def Sp:cX:=zC [adP,adz,adI,Sd,Hn,adt,R8,wg,Hm,Hk] (dE []) 89
theorem amD:jh Tryz.prog [adP,adz,adI,Sd,Hn,adt,R8,wg,Hm,Hk] [] []:=ah adO (ah ady (ah adH (ah LO (ah E1 (ah ads (ah LL (ah tF (ah OC (ah OB (aC))))))))))
def xu:Nat→LD:=eO [(0,⟨[.c 5 (.sl eG),.c 6 (.sl aE),.c 7 (.sl bl),.c 8 (zI)],[],0⟩),(2,⟨[.c 5 (.sl eG),.c 6 (.sl aE),.c 7 (.sl bl),.c 8 (zI),.c 9 (.sl bg),.c 10 (zI)],[],0⟩)]
noncomputable def ajf(f:Nat)(a:(List (Int))×(List (iz))):Option (Bool):=aG (Sp) xu (zK [.tmp 4] [.v (.bool)]) f [.code (aB Tryz.f5)] (aQ [.c (.sl [zI]),.c (.sl l7)] a)
noncomputable def vV(f:Nat)(x:(List (cC))×(List (aj))×(List (ay))×Int):Option (Bool):=aG (Sp) xu (zK [.tmp 4] [.v (.bool)]) f (aV Tryz.f5 0) ((xu 0).mk' x)
noncomputable def vU(f:Nat)(x:(List (cC))×(List (aj))×(List (ay))×Int×(List (aL))×Int):Option (Bool):=aG (Sp) xu (zK [.tmp 4] [.v (.bool)]) f (aV Tryz.f5 2) ((xu 2).mk' x)
theorem abW(f:Nat)(l:List (Int))(steps:List (iz)):ajf (f+1) (l,steps) =
  bif decide ((↑l.length:Int)>100)then some true else bif NM (cY l (aD steps))then bif xe (cY l (aD steps))then bif NM (cY l (aD steps))then bif Go.Proofs.FV (ub,12,cY l (aD steps),lq (15,0))then vV f (cY l (aD steps),aX (cY l (aD steps)),gi (ub,12,cY l (aD steps),lq (15,0)),0)else none else none else none else none:=by kernel_rfl
theorem CQ(f:Nat)(all:List (cC))(jb:List (aj))(out:List (ay))(i:Int):vV (f+1) (all,jb,out,i) =
  bif decide (i<4)then bif decide (0≤i)&&decide (i<(↑all.length:Int))then bif decide (0≤i)&&decide (i<(↑out.length:Int))then bif(↑(List.length (out.getD i.toNat ([],[],[],[],[],[])).1):Int) != (↑(List.length (all.getD i.toNat zq5).2.2.2.2.1):Int)then some false else vU f (all,jb,out,i,(all.getD i.toNat zq5).2.2.2.2.1,0)else none else none else some true:=by kernel_rfl
theorem CP(f:Nat)(all:List (cC))(jb:List (aj))(out:List (ay))(i:Int)(s:List (aL))(k:Int):vU (f+1) (all,jb,out,i,s,k) =
  bif decide (k<(↑s.length:Int))then bif decide (0≤i)&&decide (i<(↑out.length:Int))then bif decide (0≤k)&&decide (k<(↑(List.length (out.getD i.toNat ([],[],[],[],[],[])).1):Int))then bif decide (0≤k)&&decide (k<(↑s.length:Int))then bif decide (0≤k)&&decide (k<(↑s.length:Int))then bif af jb then bif cJ (s.getD k.toNat zq2).2.2.2.2.2.2.2.2.2.2.2.2 jb then bif af (List.getD (out.getD i.toNat ([],[],[],[],[],[])).1 k.toNat zq2).2.2.2.1 then bif !decide (((List.getD (out.getD i.toNat ([],[],[],[],[],[])).1 k.toNat zq2).1,(List.getD (out.getD i.toNat ([],[],[],[],[],[])).1 k.toNat zq2).2.1,(List.getD (out.getD i.toNat ([],[],[],[],[],[])).1 k.toNat zq2).2.2.1,(List.getD (out.getD i.toNat ([],[],[],[],[],[])).1 k.toNat zq2).2.2.2.1,(List.getD (out.getD i.toNat ([],[],[],[],[],[])).1 k.toNat zq2).2.2.2.2.1,(List.getD (out.getD i.toNat ([],[],[],[],[],[])).1 k.toNat zq2).2.2.2.2.2.1,(List.getD (out.getD i.toNat ([],[],[],[],[],[])).1 k.toNat zq2).2.2.2.2.2.2.1,(List.getD (out.getD i.toNat ([],[],[],[],[],[])).1 k.toNat zq2).2.2.2.2.2.2.2.1,(List.getD (out.getD i.toNat ([],[],[],[],[],[])).1 k.toNat zq2).2.2.2.2.2.2.2.2.1,(List.getD (out.getD i.toNat ([],[],[],[],[],[])).1 k.toNat zq2).2.2.2.2.2.2.2.2.2.1,(List.getD (out.getD i.toNat ([],[],[],[],[],[])).1 k.toNat zq2).2.2.2.2.2.2.2.2.2.2.1)=zq0)then some false else bif !((List.getD (out.getD i.toNat ([],[],[],[],[],[])).1 k.toNat zq2).2.2.2.2.2.2.2.2.2.2.2.2.1 == 0&&((List.getD (out.getD i.toNat ([],[],[],[],[],[])).1 k.toNat zq2).2.2.2.2.2.2.2.2.2.2.2.2.2.1 == 0&&((List.getD (out.getD i.toNat ([],[],[],[],[],[])).1 k.toNat zq2).2.2.2.2.2.2.2.2.2.2.2.2.2.2 == 0&&true)))then some false else vU f (all,jb,out,i,s,IntKind.i64.wrap (k+1))else none else bif af (List.getD (out.getD i.toNat ([],[],[],[],[],[])).1 k.toNat zq2).2.2.2.1 then bif !decide (((List.getD (out.getD i.toNat ([],[],[],[],[],[])).1 k.toNat zq2).1,(List.getD (out.getD i.toNat ([],[],[],[],[],[])).1 k.toNat zq2).2.1,(List.getD (out.getD i.toNat ([],[],[],[],[],[])).1 k.toNat zq2).2.2.1,(List.getD (out.getD i.toNat ([],[],[],[],[],[])).1 k.toNat zq2).2.2.2.1,(List.getD (out.getD i.toNat ([],[],[],[],[],[])).1 k.toNat zq2).2.2.2.2.1,(List.getD (out.getD i.toNat ([],[],[],[],[],[])).1 k.toNat zq2).2.2.2.2.2.1,(List.getD (out.getD i.toNat ([],[],[],[],[],[])).1 k.toNat zq2).2.2.2.2.2.2.1,(List.getD (out.getD i.toNat ([],[],[],[],[],[])).1 k.toNat zq2).2.2.2.2.2.2.2.1,(List.getD (out.getD i.toNat ([],[],[],[],[],[])).1 k.toNat zq2).2.2.2.2.2.2.2.2.1,(List.getD (out.getD i.toNat ([],[],[],[],[],[])).1 k.toNat zq2).2.2.2.2.2.2.2.2.2.1,(List.getD (out.getD i.toNat ([],[],[],[],[],[])).1 k.toNat zq2).2.2.2.2.2.2.2.2.2.2.1)=((s.getD k.toNat zq2).1,(s.getD k.toNat zq2).2.1,(s.getD k.toNat zq2).2.2.1,(s.getD k.toNat zq2).2.2.2.1,(s.getD k.toNat zq2).2.2.2.2.1,(s.getD k.toNat zq2).2.2.2.2.2.1,(s.getD k.toNat zq2).2.2.2.2.2.2.1,(s.getD k.toNat zq2).2.2.2.2.2.2.2.1,(s.getD k.toNat zq2).2.2.2.2.2.2.2.2.1,(s.getD k.toNat zq2).2.2.2.2.2.2.2.2.2.1,(s.getD k.toNat zq2).2.2.2.2.2.2.2.2.2.2.1))then some false else bif !((List.getD (out.getD i.toNat ([],[],[],[],[],[])).1 k.toNat zq2).2.2.2.2.2.2.2.2.2.2.2.2.1 == 0&&((List.getD (out.getD i.toNat ([],[],[],[],[],[])).1 k.toNat zq2).2.2.2.2.2.2.2.2.2.2.2.2.2.1 == 0&&((List.getD (out.getD i.toNat ([],[],[],[],[],[])).1 k.toNat zq2).2.2.2.2.2.2.2.2.2.2.2.2.2.2 == 0&&true)))then some false else vU f (all,jb,out,i,s,IntKind.i64.wrap (k+1))else none else none else none else none else none else none else vV f (all,jb,out,IntKind.i64.wrap (i+1)):=by kernel_rfl
theorem ah2{all:List cC}{dec:List aj}{out:List ay}{i:Nat}{t:ay}{s:List aL}(ho:out.getD i ([],[],[],[],[],[])=t)(hi:i<out.length)(hl8:out.length≤8)(hd:af dec=true)(hs:s.length=12)(ht:t.1.length=12)
  (hx:∀(k:Nat) (u:aL),s[k]? = some u→∃x,t.1[k]? = some x∧nU x=(0,0,0)∧(snd x=bif cJ (nU u) dec then sz else snd u)∧af x.2.2.2.1=true) (hK:∃f,vV f (all,dec,out,((i+1:Nat):Int))=some true) :
  ∀(n k:Nat),k+n=12→∃f,vU f (all,dec,out,((i:Nat):Int),s,((k:Nat):Int))=some true
 | 0,k,hk=>by
  obtain⟨f,hf⟩:=hK;refine⟨f+1,(CP f _ _ _ _ _ _).trans ?_⟩;rw[azK (show ¬((k:Nat):Int)<((s.length:Nat):Int)by omega),az (n:=((i:Nat):Int)+1) (by omega) (by omega)];exact hf
 | n+1,k,hk=>by
  obtain⟨f,hf⟩:=ah2 ho hi hl8 hd hs ht hx hK n (k+1) (by omega);obtain⟨u,hu⟩:∃u,s[k]? = some u:=⟨_,azS (by omega)⟩;obtain⟨x,x1,x2,x3,x4⟩:=hx k u hu;have g1:∀d,s.getD k d=u:=fun d=>by rw[aAm,hu];rfl
  have g2:∀d,t.1.getD k d=x:=fun d=>by rw[aAm,x1];rfl
  refine⟨f+1,(CP f _ _ _ _ _ _).trans ?_⟩;rw[azC (show((k:Nat):Int)<((s.length:Nat):Int)by omega),azC (show(0:Int)≤((i:Nat):Int)by omega),azC (show((i:Nat):Int)<((out.length:Nat):Int)by omega),azC (show(0:Int)≤((k:Nat):Int)by omega),hd];simp only[aAn,ho,g1,g2];rw[azC (show((k:Nat):Int)<((t.1.length:Nat):Int)by omega),x4,az (n:=((k:Nat):Int)+1) (by omega) (by omega)];have x5:∀w:cu,snd x=w→decide ((x.1,x.2.1,x.2.2.1,x.2.2.2.1,x.2.2.2.2.1,x.2.2.2.2.2.1,x.2.2.2.2.2.2.1,x.2.2.2.2.2.2.2.1,x.2.2.2.2.2.2.2.2.1,x.2.2.2.2.2.2.2.2.2.1,x.2.2.2.2.2.2.2.2.2.2.1)=w)=true:=fun w h=>azC h
  have x6:(x.2.2.2.2.2.2.2.2.2.2.2.2.1 == 0&&(x.2.2.2.2.2.2.2.2.2.2.2.2.2.1 == 0&&(x.2.2.2.2.2.2.2.2.2.2.2.2.2.2 == 0&&true)))=true:=by
   have e1:x.2.2.2.2.2.2.2.2.2.2.2.2.1=0:=azT (·.1) x2;have e2:x.2.2.2.2.2.2.2.2.2.2.2.2.2.1=0:=azT (·.2.1) x2;have e3:x.2.2.2.2.2.2.2.2.2.2.2.2.2.2=0:=azT (·.2.2) x2;rw[e1,e2,e3];rfl
  change (bif cJ (nU u) dec then _ else _)=_
  cases hm:cJ (nU u) dec with
  | true=>
   rw[hm]at x3;simp only[azH,azQ];rw[x5 zq0 x3,x6];exact hf
  | false=>
   rw[hm]at x3;simp only[azH,azI,azQ];rw[x5 (u.1,u.2.1,u.2.2.1,u.2.2.2.1,u.2.2.2.2.1,u.2.2.2.2.2.1,u.2.2.2.2.2.2.1,u.2.2.2.2.2.2.2.1,u.2.2.2.2.2.2.2.2.1,u.2.2.2.2.2.2.2.2.2.1,u.2.2.2.2.2.2.2.2.2.2.1) x3,x6];exact hf
theorem ah3(l:List Int)(steps:List iz):∀(n i:Nat),i+n=4→∃f,vV f (cY l (aD steps),aX (cY l (aD steps)),gi (ub,12,cY l (aD steps),lq (15,0)),((i:Nat):Int))=some true
 | 0,i,h=>⟨1,(CQ 0 _ _ _ _).trans (by rw[azK (show ¬((i:Nat):Int)<4 by omega)];rfl)⟩
 | n+1,i,h=>by
  have hi:i<4:=by omega
  obtain⟨t,t1,t2,t3⟩:=ahn l steps 12 0 hi;obtain⟨p1,p2,p3⟩:=PX (L:=cY l (aD steps)) (by show 4≤8;omega) YC;have hm:=p3 12 (lq (15,0)) (by omega) (Yz 15);have hk:=afu _ hm t1;have hdl:=oU (cY l (aD steps)) p2;have hol:(gi (ub,12,cY l (aD steps),lq (15,0))).length=4:=QI l steps 12 0;have hr:(cY l (aD steps))[i]? = some (rT l (aD steps) i):=by
   match i,hi with
   | 0,_=>rfl
   | 1,_=>rfl
   | 2,_=>rfl
   | 3,_=>rfl
  have aO:=hk.sl;simp only[ct,azF,azU]at aO;have h12:(Bt l (aD steps) i).1.length=12:=(PY l steps i).len;obtain⟨f,hf⟩:=ah2 (all:=cY l (aD steps)) (dec:=aX (cY l (aD steps))) (out:=gi (ub,12,cY l (aD steps),lq (15,0))) (i:=i) (t:=t) (s:=(Bt l (aD steps) i).1) (by rw[aAm,t1];rfl) (by omega) (by omega) (azC (by omega)) h12 t2
   (fun k u hu=>by
    obtain⟨x,x1,x2,x3⟩:=t3 k u hu;have e:cJ (nU u) (aX (cY l (aD steps)))=decide (nU u∈aX (cY l (aD steps))):=by unfold cJ;congr
    exact⟨x,x1,x2,by rw[e];exact x3,aO.2 x (azO x1)⟩) (ah3 l steps n (i+1) (by omega)) 12 0 rfl
  refine⟨f+1,(CQ f _ _ _ _).trans ?_⟩;have g1:∀d,(cY l (aD steps)).getD i d=rT l (aD steps) i:=fun d=>by rw[aAm,hr];rfl
  have g2:∀d,(gi (ub,12,cY l (aD steps),lq (15,0))).getD i d=t:=fun d=>by rw[aAm,t1];rfl
  rw[azC (show((i:Nat):Int)<4 by omega),azC (show(0:Int)≤((i:Nat):Int)by omega),azC (show((i:Nat):Int)<(((cY l (aD steps)).length:Nat):Int)by show((i:Nat):Int)<4;omega),azC (show((i:Nat):Int)<(((gi (ub,12,cY l (aD steps),lq (15,0))).length:Nat):Int)by omega)];simp only[aAn,g1,g2,azH,azQ];have he:(((t.1.length:Nat):Int) != (((Bt l (aD steps) i).1.length:Nat):Int))=false:=by rw[t2,h12];rfl
  exact(azT (fun c=>bif c then _ else _) he).trans hf
theorem YN:∀a:List Int×List iz,∃f,ajf f a=some true:=by
 rintro⟨l,steps⟩;obtain⟨p1,p2,p3⟩:=PX (L:=cY l (aD steps)) (by show 4≤8;omega) YC;obtain⟨f,hf⟩:=ah3 l steps 4 0 rfl;refine⟨f+1,(abW f l steps).trans ?_⟩;rw[p1,p2,p3 12 (lq (15,0)) (by omega) (Yz 15)];cases decide (((l.length:Nat):Int)>100)with
 | true=>rfl
 | false=>
  have hol:(gi (ub,12,cY l (aD steps),lq (15,0))).length=4:=QI l steps 12 0;simp only[azH,azI,hol];exact hf
theorem af6:∀a:dA [.rd [zI],.rd l7],yD [.rd [zI],.rd l7] a→∀vs,bY [.rd [zI],.rd l7] a vs→EW Tryz.prog 5 vs (cf [.v .bool] (true:Bool)):=by
 suffices key:∀a:List Int×List iz,∀vs,bY [.rd [zI],.rd l7] a vs→EW Tryz.prog 5 vs (cf [.v .bool] (true:Bool))from fun a _=>key a
 rintro⟨l,s⟩ vs hv;obtain⟨v0,r0,rfl,⟨Pv,rfl,h0⟩,v1,rfl,⟨DW,rfl,h1⟩⟩:=(show ∃v0 r0,vs=v0::r0∧(∃rows,v0=.rd rows∧bD [zI] l rows)∧∃v1,r0=[v1]∧(∃rows,v1=.rd rows∧bD l7 s rows)from hv);have hb:EW Tryz.prog 5 [.sl Pv,.sl DW] (cf [.v .bool] (true:Bool)):=(YN (l,s)).elim fun f h=>iI (C:=Sp) (Lt:=xu) (fn:=Tryz.f5) (rs:=[.tmp 4]) [.c (.sl [zI]),.c (.sl l7)] [.v (.bool)] mixed amD Tryz.func5 rfl rfl rfl (by kernel_rfl) (by kernel_rfl) (a:=((l,s):List Int×List iz)) f h _ (⟨_,_,rfl,jv.2 (.inr ⟨Pv,rfl,h0⟩),_,rfl,jv.2 (.inr ⟨DW,rfl,h1⟩)⟩:∃v0 r0,[V.sl Pv,V.sl DW]=v0::r0∧eM (.sl [zI]) l v0∧∃v1,r0=[v1]∧eM (.sl l7) s v1)
 exact hb.pur (Uy true) ⟨.inr ⟨Pv,rfl,rfl⟩,.inr ⟨DW,rfl,rfl⟩,trivial⟩
end Go.AL
namespace Go.Proofs.YtfggefeflojnkaaGreat
open Go.AL
theorem Tryz.own:ownKnob Tryz.prog.godebug=none:=by kernel_rfl
theorem Tryz.laidOut:laidOutB Tryz.prog=true:=by kernel_rfl
