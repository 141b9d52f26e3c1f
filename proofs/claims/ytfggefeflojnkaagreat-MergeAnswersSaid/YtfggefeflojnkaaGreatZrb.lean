/- By an AI agent. -/
import Derived.Test.YtfggefeflojnkaaGreatZn0
import Derived.Test.YtfggefeflojnkaaGreatRows
set_option linter.unusedSimpArgs false
set_option linter.unusedVariables false
set_option linter.unusedSectionVars false
open Go.IntKind (i64 u64)
namespace Go.AL
open Go.Proofs
noncomputable def agp:cX:=zC [adP,adz,adt,agw,Hn,adI,R8,aim,wg] (dE [(6,([(1,[]),(3,[]),(0,[]),(2,[]),(4,[]),(5,[])],[(12,12),(30,34)])),(13,([(0,[]),(1,[]),(2,[]),(3,[]),(4,[]),(5,[]),(6,[]),(7,[]),(8,[]),(9,[]),(10,[]),(11,[]),(12,[]),(13,[]),(14,[]),(15,[])],[(57,72)])),(18,([(0,[]),(1,[]),(2,[]),(3,[]),(4,[]),(5,[]),(6,[]),(7,[]),(8,[]),(9,[]),(10,[]),(11,[]),(12,[])],[(16,16),(79,90)])),(27,([(0,[]),(1,[]),(2,[]),(3,[]),(4,[]),(5,[]),(6,[]),(7,[]),(8,[]),(9,[]),(10,[]),(11,[]),(12,[]),(13,[]),(14,[]),(15,[])],[(144,159)]))]) 161
theorem aqk:jh Tryz.prog [adP,adz,adt,agw,Hn,adI,R8,aim,wg] [] []:=ah adO (ah ady (ah ads (ah agJ (ah E1 (ah adH (ah LL (ah aik (ah tF (aC)))))))))
def aet:Nat→LD:=eO [(0,⟨[.c 9 (.sl eG),.box 10 10 30 3 Jp,.c 11 (.sl aE),.c 12 (.sl bl),.c 13 (zI)],[],0⟩),(2,⟨[.c 9 (.sl eG),.box 10 10 30 3 Jp,.c 11 (.sl aE),.c 12 (.sl bl),.c 13 (zI),.c 14 (.sl bV),.c 15 (zI)],[],0⟩),(4,⟨[.c 9 (.sl eG),.box 10 10 30 3 Jp,.c 11 (.sl aE),.c 12 (.sl bl),.c 13 (zI),.c 14 (.sl bV),.c 15 (zI),.c 17 (zI)],[],0⟩)]
noncomputable def anV(f:Nat)(a:(List (Int))×(List (iz))×Int×Int):Option (Bool):=aG (agp) aet (zK [.tmp 8] [.v (.bool)]) f [.code (aB Tryz.f7)] (aQ [.c (.sl [zI]),.c (.sl l7),.c (zI),.c (zI)] a)
noncomputable def aeA(f:Nat)(x:(List (cC))×jf×(List (aj))×(List (ay))×Int):Option (Bool):=aG (agp) aet (zK [.tmp 8] [.v (.bool)]) f (aV Tryz.f7 0) ((aet 0).mk' x)
noncomputable def b8(f:Nat)(x:(List (cC))×jf×(List (aj))×(List (ay))×Int×(List (bR))×Int):Option (Bool):=aG (agp) aet (zK [.tmp 8] [.v (.bool)]) f (aV Tryz.f7 2) ((aet 2).mk' x)
noncomputable def aes(f:Nat)(x:(List (cC))×jf×(List (aj))×(List (ay))×Int×(List (bR))×Int×Int):Option (Bool):=aG (agp) aet (zK [.tmp 8] [.v (.bool)]) f (aV Tryz.f7 4) ((aet 4).mk' x)
theorem aie(f:Nat)(l:List (Int))(steps:List (iz))(members:Int)(owner:Int):anV (f+1) (l,steps,members,owner) =
  bif decide ((↑l.length:Int)>100)then some true else bif xe (cY l (aD steps))then bif NM (cY l (aD steps))then bif Go.Proofs.FV (ub,12,cY l (aD steps),lq (members,owner))then bif(↑(gi (ub,12,cY l (aD steps),lq (members,owner))).length:Int) != (↑(List.length (lq (members,owner)).2.1):Int)then some false else aeA f (cY l (aD steps),lq (members,owner),aX (cY l (aD steps)),gi (ub,12,cY l (aD steps),lq (members,owner)),0)else none else none else none:=by kernel_rfl
theorem af5(f:Nat)(all:List (cC))(v:jf)(jb:List (aj))(out:List (ay))(i:Int):aeA (f+1) (all,v,jb,out,i) =
  bif decide (i<(↑out.length:Int))then bif decide (0≤i)&&decide (i<(↑(List.length v.2.1):Int))then bif decide (0≤List.getD v.2.1 i.toNat 0)&&decide (List.getD v.2.1 i.toNat 0<(↑all.length:Int))then bif decide (0≤i)&&decide (i<(↑out.length:Int))then bif decide (0≤i)&&decide (i<(↑out.length:Int))then bif i64.wrap ((↑(List.length (out.getD i.toNat ([],[],[],[],[],[])).2.1):Int)+(↑(List.length (out.getD i.toNat ([],[],[],[],[],[])).2.2.2.1):Int)) != (↑(List.length (all.getD (Int.toNat (List.getD v.2.1 i.toNat 0)) zq5).2.2.2.2.2.1):Int)then some false else b8 f (all,v,jb,out,i,(all.getD (Int.toNat (List.getD v.2.1 i.toNat 0)) zq5).2.2.2.2.2.1,0)else none else none else none else none else some true:=by kernel_rfl
theorem afP(f:Nat)(all:List (cC))(v:jf)(jb:List (aj))(out:List (ay))(i:Int)(p:List (bR))(k:Int):b8 (f+1) (all,v,jb,out,i,p,k) =
  bif decide (k<(↑p.length:Int))then bif decide (0≤i)&&decide (i<(↑out.length:Int))then bif decide (0≤k)&&decide (k<(↑p.length:Int))then bif af (out.getD i.toNat ([],[],[],[],[],[])).2.1 then bif decide (bu (fun q=>decide (tZ q=((p.getD k.toNat zq3).1,(p.getD k.toNat zq3).2.1,(p.getD k.toNat zq3).2.2.1))) (out.getD i.toNat ([],[],[],[],[],[])).2.1 0≥0)then bif decide (0≤k)&&decide (k<(↑p.length:Int))then bif(p.getD k.toNat zq3).2.2.2.1 == 6 then bif decide (0≤k)&&decide (k<(↑p.length:Int))then bif af jb then bif cJ ((p.getD k.toNat zq3).1,(p.getD k.toNat zq3).2.1,(p.getD k.toNat zq3).2.2.1) jb then some false else b8 f (all,v,jb,out,i,p,i64.wrap (k+1))else none else none else b8 f (all,v,jb,out,i,p,i64.wrap (k+1))else none else bif decide (0≤k)&&decide (k<(↑p.length:Int))then bif(p.getD k.toNat zq3).2.2.2.1 != 4 then bif decide (0≤k)&&decide (k<(↑p.length:Int))then bif(p.getD k.toNat zq3).2.2.2.1 == 6 then bif decide (0≤k)&&decide (k<(↑p.length:Int))then bif af jb then bif !cJ ((p.getD k.toNat zq3).1,(p.getD k.toNat zq3).2.1,(p.getD k.toNat zq3).2.2.1) jb then some false else aes f (all,v,jb,out,i,p,k,0)else none else none else some false else none else aes f (all,v,jb,out,i,p,k,0)else none else none else none else none else aeA f (all,v,jb,out,i64.wrap (i+1)):=by kernel_rfl
theorem afM(f:Nat)(all:List (cC))(v:jf)(jb:List (aj))(out:List (ay))(i:Int)(p:List (bR))(k:Int)(j:Int):aes (f+1) (all,v,jb,out,i,p,k,j) =
  bif decide (0≤i)&&decide (i<(↑out.length:Int))then bif decide (j<(↑(List.length (out.getD i.toNat ([],[],[],[],[],[])).1):Int))then bif decide (0≤i)&&decide (i<(↑out.length:Int))then bif decide (0≤j)&&decide (j<(↑(List.length (out.getD i.toNat ([],[],[],[],[],[])).1):Int))then bif decide (0≤k)&&decide (k<(↑p.length:Int))then bif(List.getD (out.getD i.toNat ([],[],[],[],[],[])).1 j.toNat zq2).2.2.2.2.2.2.2.2.2.2.2.1 == (p.getD k.toNat zq3).2.1 then some false else aes f (all,v,jb,out,i,p,k,i64.wrap (j+1))else none else none else none else b8 f (all,v,jb,out,i,p,i64.wrap (k+1))else none:=by kernel_rfl
theorem anw{all:List cC}{v:jf}{dec:List aj}{out:List ay}{i:Nat}{s:ay}{p:List bR}{k:Nat}{r:bR}(hi:i<out.length)(hs:out.getD i ([],[],[],[],[],[])=s)(hp:p[k]? = some r)(hk8:p.length≤19)(hl:s.1.length≤1000000)(hn:UJ r.2.1 s.1)
  (hK:∃f,b8 f (all,v,dec,out,((i:Nat):Int),p,((k+1:Nat):Int))=some true):∀(q j:Nat),j+q=s.1.length→∃f,aes f (all,v,dec,out,((i:Nat):Int),p,((k:Nat):Int),((j:Nat):Int))=some true
 | 0,j,hj=>by
  obtain⟨f,hf⟩:=hK;have hk:=(azR.1 hp).1;refine⟨f+1,(afM f _ _ _ _ _ _ _ _).trans ?_⟩;rw[azC (show(0:Int)≤((i:Nat):Int)by omega),azC (show((i:Nat):Int)<((out.length:Nat):Int)by omega)];simp only[azH,azQ,aAn,hs];rw[azK (show ¬((j:Nat):Int)<((s.1.length:Nat):Int)by omega),az (n:=((k:Nat):Int)+1) (by omega) (by omega)];exact hf
 | q+1,j,hj=>by
  obtain⟨f,hf⟩:=anw hi hs hp hk8 hl hn hK q (j+1) (by omega);have hk:=(azR.1 hp).1;obtain⟨u,hu⟩:∃u,s.1[j]? = some u:=⟨_,azS (by omega)⟩;have g1:∀d,s.1.getD j d=u:=fun d=>by rw[aAm,hu];rfl
  have g2:∀d,p.getD k d=r:=fun d=>by rw[aAm,hp];rfl
  have dU:(u.2.2.2.2.2.2.2.2.2.2.2.1 == r.2.1)=false:=by
   have:=hn u (azO hu);rw[xm];exact azK this
  refine⟨f+1,(afM f _ _ _ _ _ _ _ _).trans ?_⟩;rw[azC (show(0:Int)≤((i:Nat):Int)by omega),azC (show((i:Nat):Int)<((out.length:Nat):Int)by omega)];simp only[azH,azQ,aAn,hs,g1,g2];rw[azC (show((j:Nat):Int)<((s.1.length:Nat):Int)by omega),azC (show(0:Int)≤((j:Nat):Int)by omega),azC (show(0:Int)≤((k:Nat):Int)by omega),azC (show((k:Nat):Int)<((p.length:Nat):Int)by omega),dU,az (n:=((j:Nat):Int)+1) (by omega) (by omega)];exact hf
theorem anx{all:List cC}{v:jf}{dec:List aj}{out:List ay}{i:Nat}{s:ay}{p:List bR}{kn:bR→Bool}(hi:i<out.length)(hs:out.getD i ([],[],[],[],[],[])=s)(hk8:p.length≤19)(hl:s.1.length≤1000000)(hd:af dec=true)(hq:s.2.1=p.filter fun r=>!kn r)
  (hu:∀(a b:Nat) (x y:bR),p[a]? = some x→p[b]? = some y→tZ x=tZ y→x=y) (hk:∀r∈p,(kn r=true→(sQ r).1=4∨((sQ r).1=6∧cJ (tZ r) dec=true))∧((sQ r).1=6→cJ (tZ r) dec=true→kn r=true)∧(kn r=true→UJ r.2.1 s.1))
  (hK:∃f,aeA f (all,v,dec,out,((i+1:Nat):Int))=some true) (hi8:out.length≤8):∀(q k:Nat),k+q=p.length→∃f,b8 f (all,v,dec,out,((i:Nat):Int),p,((k:Nat):Int))=some true
 | 0,k,hkq=>by
  obtain⟨f,hf⟩:=hK;refine⟨f+1,(afP f _ _ _ _ _ _ _).trans ?_⟩;rw[azK (show ¬((k:Nat):Int)<((p.length:Nat):Int)by omega),az (n:=((i:Nat):Int)+1) (by omega) (by omega)];exact hf
 | q+1,k,hkq=>by
  have ih:=anx hi hs hk8 hl hd hq hu hk hK hi8 q (k+1) (by omega);obtain⟨r,hr⟩:∃r,p[k]? = some r:=⟨_,azS (by omega)⟩;have hrm:=azO hr;obtain⟨k1,k2,k3⟩:=hk r hrm;have g2:∀d,p.getD k d=r:=fun d=>by rw[aAm,hr];rfl
  have wu:decide (bu (fun q=>decide (tZ q=tZ r)) s.2.1 0≥0) = !kn r:=by
   have e:decide (bu (fun q=>decide (tZ q=tZ r)) s.2.1 0≥0)=s.2.1.any fun q=>decide (tZ q=tZ r):=T5 (p:=fun q=>decide (tZ q=tZ r)) s.2.1
   rw[e,hq];cases hkn:kn r with
   | true=>
    refine aBD.2 fun x hx=>?_
    obtain⟨x1,x2⟩:=aBN.1 hx;obtain⟨b,hb⟩:=aBW.1 x1;intro hxr;have:=hu b k x r hb hr (azZ hxr);rw[this,hkn]at x2;cases x2
   | false=>exact aBm.2 ⟨r,aBN.2 ⟨hrm,by rw[hkn];rfl⟩,azC rfl⟩
  have hlq:af s.2.1=true:=azC (by
   have:=aCk (fun r=>!kn r) p;rw[hq];omega)
  have base:∀f,b8 (f+1) (all,v,dec,out,((i:Nat):Int),p,((k:Nat):Int))=bif !kn r then(bif(sQ r).1 == 6 then bif cJ (tZ r) dec then some false else b8 f (all,v,dec,out,((i:Nat):Int),p,((k+1:Nat):Int))else b8 f (all,v,dec,out,((i:Nat):Int),p,((k+1:Nat):Int)))
    else bif(sQ r).1 != 4 then bif(sQ r).1 == 6 then bif !cJ (tZ r) dec then some false else aes f (all,v,dec,out,((i:Nat):Int),p,((k:Nat):Int),0)else some false else aes f (all,v,dec,out,((i:Nat):Int),p,((k:Nat):Int),0):=fun f=>by
   refine(afP f _ _ _ _ _ _ _).trans ?_;rw[azC (show((k:Nat):Int)<((p.length:Nat):Int)by omega),azC (show(0:Int)≤((i:Nat):Int)by omega),azC (show((i:Nat):Int)<((out.length:Nat):Int)by omega),azC (show(0:Int)≤((k:Nat):Int)by omega),az (n:=((k:Nat):Int)+1) (by omega) (by omega)];simp only[azH,azQ,aAn,hs,g2,hlq,hd];exact azT (fun c=>bif c then _ else _) wu
  cases hkn:kn r with
  | false=>
   obtain⟨f,hf⟩:=ih;refine⟨f+1,(base f).trans ?_⟩;rw[hkn];cases h6:(sQ r).1 == 6 with
   | false=>exact hf
   | true=>
    cases hm:cJ (tZ r) dec with
    | false=>exact hf
    | true=>
     rw[xm]at h6;have:=k2 (azZ h6) hm;rw[hkn]at this;cases this
  | true=>
   obtain⟨f,hf⟩:=anw (all:=all) (v:=v) (dec:=dec) hi hs hr hk8 hl (k3 hkn) ih s.1.length 0 (az8 _);refine⟨f+1,(base f).trans ?_⟩;rw[hkn];rcases k1 hkn with h4 | ⟨h6,hm⟩
   ·rw[h4];exact hf
   ·rw[h6,hm];exact hf
theorem amf{α:Type}{l:List α}(p:α→Bool):l.length=(l.filter p).length+(l.filter fun x=>!p x).length:=by
 induction l with
 | nil=>rfl
 | cons a l ih=>
  cases h:p a with
  | true=>rw[aCp h,aB7 (by rw[h];simp),azL,azL];omega
  | false=>rw[aB7 (by rw[h];simp),aCp (by rw[h];rfl),azL,azL];omega
theorem anz(l:List Int)(steps:List iz)(mb ow:Int)(hm:FV (ub,12,cY l (aD steps),lq (mb,ow))=true)(hd:af (aX (cY l (aD steps)))=true):∀(q i:Nat),i+q=(lq (mb,ow)).2.1.length→∃f,aeA f (cY l (aD steps),lq (mb,ow),aX (cY l (aD steps)),gi (ub,12,cY l (aD steps),lq (mb,ow)),((i:Nat):Int))=some true
 | 0,i,hi=>by
  have hlen:(gi (ub,12,cY l (aD steps),lq (mb,ow))).length=(lq (mb,ow)).2.1.length:=PA _;exact⟨1,(af5 0 _ _ _ _ _).trans (by rw[azK (show ¬((i:Nat):Int)<(((gi (ub,12,cY l (aD steps),lq (mb,ow))).length:Nat):Int)by omega)];rfl)⟩
 | q+1,i,hi=>by
  have hlen:(gi (ub,12,cY l (aD steps),lq (mb,ow))).length=(lq (mb,ow)).2.1.length:=PA _;have hmb:(lq (mb,ow)).2.1.length≤8:=Yz mb;obtain⟨c,hc⟩:∃c,(lq (mb,ow)).2.1[i]? = some c:=⟨_,azS (by omega)⟩;obtain⟨c0,c4⟩:=ahH mb c (azO hc);obtain⟨s,s1,s2,s3,s4⟩:=aft (ub,12,cY l (aD steps),lq (mb,ow)) hc;have e:=af2 l (aD steps) 12 (i:=c.toNat) (by omega);rw[show((c.toNat:Nat):Int)=c by omega]at e;have hp:(dp (c,12,cY l (aD steps))).2.1=oH c.toNat 0 (mm (l.drop (5*c.toNat),aD steps,((c.toNat:Nat):Int))).2.1:=by rw[e];rfl
  have s2:s.2.1=(dp (c,12,cY l (aD steps))).2.1.filter fun r=>!knB (ub,12,cY l (aD steps),lq (mb,ow)) c r:=s2
  have s3:s.2.2.2.1.length=((dp (c,12,cY l (aD steps))).2.1.filter (knB (ub,12,cY l (aD steps),lq (mb,ow)) c)).length:=s3;have s4:∀r∈(dp (c,12,cY l (aD steps))).2.1,knB (ub,12,cY l (aD steps),lq (mb,ow)) c r=true→(tZ r).2.1 ≠ 0→UJ (tZ r).2.1 s.1:=s4;rw[hp]at s2 s3 s4;have hk:=afu _ hm s1;have hmk:=PY l steps c.toNat;have Qf:(oH c.toNat 0 (mm (l.drop (5*c.toNat),aD steps,((c.toNat:Nat):Int))).2.1).length≤19:=hmk.pn;have fP:∀(a:Nat) (x:bR),(oH c.toNat 0 (mm (l.drop (5*c.toNat),aD steps,((c.toNat:Nat):Int))).2.1)[a]? = some x→x.2.1=((30+a:Nat):Int):=fun a x hx=>by
   have bO:=(azR.1 hx).1;rw[lz]at bO;have hg:=Bu c.toNat _ 0 a _ (azS bO);rw[hx,az8]at hg;rw[az9 hg]
  have g1:∀d,(gi (ub,12,cY l (aD steps),lq (mb,ow))).getD i d=s:=fun d=>by rw[aAm,s1];rfl
  have g2:∀d,(lq (mb,ow)).2.1.getD i d=c:=fun d=>by rw[aAm,hc];rfl
  have g3:∀d,(cY l (aD steps)).getD c.toNat d=rT l (aD steps) c.toNat:=fun d=>by
   have hr:(cY l (aD steps))[c.toNat]? = some (rT l (aD steps) c.toNat):=by
    have:c.toNat<4:=by omega
    generalize c.toNat=n at this
    match n,this with
    | 0,_=>rfl
    | 1,_=>rfl
    | 2,_=>rfl
    | 3,_=>rfl
   rw[aAm,hr];rfl
  obtain⟨f,hf⟩:=anx (all:=cY l (aD steps)) (v:=lq (mb,ow)) (dec:=aX (cY l (aD steps))) (out:=gi (ub,12,cY l (aD steps),lq (mb,ow))) (i:=i) (s:=s) (p:=oH c.toNat 0 (mm (l.drop (5*c.toNat),aD steps,((c.toNat:Nat):Int))).2.1) (kn:=knB (ub,12,cY l (aD steps),lq (mb,ow)) c)
   (by omega) (g1 _) Qf hk.len hd s2
   (fun a b x y hx hy uH=>by
    have h1:=fP a x hx;have h2:=fP b y hy;have h3:x.2.1=y.2.1:=azT (·.2.1) uH;obtain rfl:a=b:=by omega
    exact az9 (hx.symm.trans hy))
   (fun r hr=>by
    obtain⟨a,ha⟩:=aBW.1 hr;have h1:=fP a r ha;have hkk:=ahO (ub,12,cY l (aD steps),lq (mb,ow)) c r;exact⟨hkk.1,hkk.2,fun h=>s4 r hr h (by show r.2.1 ≠ 0;omega)⟩)
   (anz l steps mb ow hm hd q (i+1) (by omega)) (by omega) _ 0 (az8 _)
  have au8:i64.wrap (((s.2.1.length:Nat):Int)+((s.2.2.2.1.length:Nat):Int))=(((oH c.toNat 0 (mm (l.drop (5*c.toNat),aD steps,((c.toNat:Nat):Int))).2.1).length:Nat):Int):=by
   have h1:=amf (l:=oH c.toNat 0 (mm (l.drop (5*c.toNat),aD steps,((c.toNat:Nat):Int))).2.1) (knB (ub,12,cY l (aD steps),lq (mb,ow)) c);rw[s2,s3,az (by omega) (by omega)];omega
  refine⟨f+1,(af5 f _ _ _ _ _).trans ?_⟩;rw[azC (show((i:Nat):Int)<(((gi (ub,12,cY l (aD steps),lq (mb,ow))).length:Nat):Int)by omega),azC (show(0:Int)≤((i:Nat):Int)by omega),azC (show((i:Nat):Int)<(((lq (mb,ow)).2.1.length:Nat):Int)by omega)];simp only[azH,azQ,aAn,g1,g2,g3];rw[azC (show(0:Int)≤c by omega),azC (show c<(((cY l (aD steps)).length:Nat):Int)by show c<4;omega)];simp only[azH,azQ];have hz:(i64.wrap (((s.2.1.length:Nat):Int)+((s.2.2.2.1.length:Nat):Int)) != (((oH c.toNat 0 (mm (l.drop (5*c.toNat),aD steps,((c.toNat:Nat):Int))).2.1).length:Nat):Int))=false:=by rw[au8];simp
  exact(azT (fun c=>bif c then _ else _) hz).trans hf
theorem ahK:∀a:List Int×List iz×Int×Int,∃f,anV f a=some true:=by
 rintro⟨l,steps,mb,ow⟩;obtain⟨p1,p2,p3⟩:=PX (L:=cY l (aD steps)) (by show 4≤8;omega) YC;have hmb:(lq (mb,ow)).2.1.length≤8:=Yz mb;have hm:=p3 12 (lq (mb,ow)) (by omega) hmb;have hlen:(gi (ub,12,cY l (aD steps),lq (mb,ow))).length=(lq (mb,ow)).2.1.length:=PA _;have hdl:=oU (cY l (aD steps)) p2;obtain⟨f,hf⟩:=anz l steps mb ow hm (azC (by omega)) _ 0 (az8 _);refine⟨f+1,(aie f l steps mb ow).trans ?_⟩;rw[p1,p2,hm];cases decide (((l.length:Nat):Int)>100)with
 | true=>rfl
 | false=>
  simp only[azH,azI,hlen];have e:((((lq (mb,ow)).2.1.length:Nat):Int) != (((lq (mb,ow)).2.1.length:Nat):Int))=false:=by simp
  rw[e];exact hf
theorem alG:∀a:dA [.rd [zI],.rd l7,.c (zI),.c (zI)],yD [.rd [zI],.rd l7,.c (zI),.c (zI)] a→∀vs,bY [.rd [zI],.rd l7,.c (zI),.c (zI)] a vs→EW Tryz.prog 7 vs (cf [.v .bool] (true:Bool)):=by
 suffices key:∀a:List Int×List iz×Int×Int,∀vs,bY [.rd [zI],.rd l7,.c (zI),.c (zI)] a vs→EW Tryz.prog 7 vs (cf [.v .bool] (true:Bool))from fun a _=>key a
 rintro⟨l,s,x0,x1⟩ vs hv;obtain⟨v0,r0,rfl,⟨Pv,rfl,h0⟩,v1,r1,rfl,⟨DW,rfl,h1⟩,v2,r2,rfl,h2,v3,rfl,h3⟩:=(show ∃v0 r0,vs=v0::r0∧(∃rows,v0=.rd rows∧bD [zI] l rows)∧∃v1 r1,r0=v1::r1∧(∃rows,v1=.rd rows∧bD l7 s rows)∧∃v2 r2,r1=v2::r2∧lZ (.c (zI)) x0 v2∧∃v3,r2=[v3]∧lZ (.c (zI)) x1 v3 from hv);have hb:EW Tryz.prog 7 [.sl Pv,.sl DW,v2,v3] (cf [.v .bool] (true:Bool)):=(ahK (l,s,x0,x1)).elim fun f h=>iI (C:=agp) (Lt:=aet) (fn:=Tryz.f7) (rs:=[.tmp 8]) [.c (.sl [zI]),.c (.sl l7),.c (zI),.c (zI)] [.v (.bool)] mixed aqk Tryz.func7 rfl rfl rfl (by kernel_rfl) (by kernel_rfl) (a:=((l,s,x0,x1):List Int×List iz×Int×Int)) f h _ (⟨_,_,rfl,jv.2 (.inr ⟨Pv,rfl,h0⟩),_,_,rfl,jv.2 (.inr ⟨DW,rfl,h1⟩),_,_,rfl,h2,_,rfl,h3⟩:∃v0 r0,[V.sl Pv,V.sl DW,v2,v3]=v0::r0∧eM (.sl [zI]) l v0∧∃v1 r1,r0=v1::r1∧eM (.sl l7) s v1∧∃v2 r2,r1=v2::r2∧lZ (.c (zI)) x0 v2∧∃v3,r2=[v3]∧lZ (.c (zI)) x1 v3)
 exact hb.pur (Uy true) ⟨.inr ⟨Pv,rfl,rfl⟩,.inr ⟨DW,rfl,rfl⟩,.inl rfl,.inl rfl,trivial⟩
end Go.AL
namespace Go.Proofs.YtfggefeflojnkaaGreat
open Go.AL
theorem Tryz.own:ownKnob Tryz.prog.godebug=none:=by kernel_rfl
theorem Tryz.laidOut:laidOutB Tryz.prog=true:=by kernel_rfl
