/- By an AI agent. -/
import Derived.Test.YtfggefeflojnkaaGreatZ19
set_option linter.unusedSimpArgs false
set_option linter.unusedVariables false
namespace Go.AL
open Go.RowKit
theorem atH{P:Program}{g:FuncId}{ad:List AK}{t:Ty}{pre:dE ad→Bool}{fn:dE ad→t.T}(h:∀a,pre a=true→∀(w:World) (A:Nat→Prop),(∀b,A b→b<w.heap.size)→∀us:Array Value,Hy w A ad a us.toList→Calls P g us w (fun en w'=>∃u,en=.returned u∧Cl w' A t (fn a) u∧Below w.heap.size w w')):db.Ok P ⟨g,ad,[.v t],pre,fn⟩:=by
 intro a hp vs hv;refine⟨fun rds h=>Zr _ _ rds h,fun w A us hA dC hrel=>?_⟩
 haveI:ZA:=⟨A⟩
 have ha:Hy w A ad a us.toList:=aqc hv (RL (by rw[aDM];exact dC.symm) fun i x hx=>by
  obtain⟨u,h1,h2⟩:=hrel i x hx;exact⟨u,by simpa using h1,h2⟩)
 refine(h a hp w A hA us ha).mono fun en w' hh=>?_
 obtain⟨u,rfl,⟨v,hv1,Xd⟩,hB⟩:=hh;have cA:∀o ob,fC [RD.v v] o=some ob→False:=fun o ob h=>by
  match o,h with
  | 0,h=>cases h
  | o+1,h=>simp[fC]at h
 refine⟨[.v v],[u],iF,A,(⟨.v v,rfl,v,rfl,hv1⟩:∃rd,[RD.v v]=[rd]∧sQ (.v t) (fn a) rd),rfl,rfl,⟨fun o ob ho=>(cA o ob ho).elim,fun o o' ob ob' b h1 _ _ _=>(cA o ob h1).elim,fun b hb=>aCP (hA b hb) hB.size⟩,fun k rd hk=>?_,fun b _ h=>h,⟨hB.os,hB.tape,hB.output,hB.size,fun q hq _=>hB.block q hq⟩,fun k ob b h1 _=>(cA k ob h1).elim⟩
 match k,hk with
 | 0,hk=>
  simp at hk;subst hk;exact⟨u,rfl,cH.aU Xd⟩
 | k+1,hk=>simp at hk
end Go.AL
namespace Go.Proofs
open Go.AL Go.RowKit
noncomputable def L4:db:=⟨17,[.rd cV],[.v (.sl aH)],fun a:List bz=>lO a,fun a:List bz=>bc a⟩
theorem L3:L4.Ok Tryz.prog:=atH (ad:=[.rd cV]) (t:=.sl aH) (pre:=fun a:List bz=>lO a) (fn:=fun a:List bz=>bc a) fun a hp w A hA us ha=>by
 haveI:ZA:=⟨A⟩
 have hp:lO a=true:=hp;obtain⟨u,e,hu⟩:=(show ∃u,us.toList=[u]∧Ag w A (.rd cV) a u from ha);have ja:us=#[u]:=by rw[← aE5 (xs:=us),e]
 subst ja;obtain⟨h1,h2⟩:=Lw hp;refine(Zd.calls w a u ((at8 hu).fr (cZ.refl _ _) (cZ.refl _ _) (aCt _) (fun _ _ h=>h.elim) (fun _ _ h=>h.elim)) h1 h2).mono fun en w' hh=>?_
 obtain⟨v,rfl,ho,hB⟩:=hh;have h3:bk w' A w.heap.size 48 3 aH (bc a) v:=by
  rcases ho with h | ⟨g,cap,cur,e1,e2,e3,e4,e5,e6,e7⟩
  ·exact .inl h
  ·refine .inr ⟨g,cap,cur,e1,e2,e3,e4,e5,e6,fun i x hx=>?_⟩
   obtain⟨us,k1,k2,k3⟩:=e7 i x hx;have ja:=rK k1;subst ja;exact⟨_,j5,k2,k3⟩
 exact⟨v,rfl,h3.cl rfl fun g hg he=>by have:=(h3.lt hg).1;have:=hA g he;omega,hB⟩
def AT(a:List bA×Int×List bz×bU):Bool:=n9 a&&(Ka a.2.2.1&&decide (a.2.1≤19))
theorem Z7(rs:List bA)(ai:Int)(ab:List bz)(v:bU)(h:AT (rs,ai,ab,v)=true):n9 (rs,ai,ab,v)=true∧Ka ab=true∧ai≤19:=by
 simp only[AT,aCs,aCy]at h;exact h
noncomputable def LZ:db:=⟨19,[.c (.sl dB),.c (.int .i64),.c (.sl cV),.g eN],[.v (.sl ba)],fun a:List bA×Int×List bz×bU=>AT a,fun a:List bA×Int×List bz×bU=>eC a⟩
theorem LY:LZ.Ok Tryz.prog:=atH (ad:=[.c (.sl dB),.c (.int .i64),.c (.sl cV),.g eN]) (t:=.sl ba) (pre:=fun a:List bA×Int×List bz×bU=>AT a) (fn:=fun a:List bA×Int×List bz×bU=>eC a) fun a hp w A hA us ha=>by
 obtain⟨rs,ai,ab,v⟩:=(a:List bA×Int×List bz×bU);have hp:=Z7 _ _ _ _ hp;obtain⟨u0,r0,e0,h0,u1,r1,rfl,h1,u2,r2,rfl,h2,u3,rfl,h3⟩:=(show ∃u0 r0,us.toList=u0::r0∧Ag w A (.c (.sl dB)) rs u0∧∃u1 r1,r0=u1::r1∧Ag w A (.c (.int .i64)) ai u1∧∃u2 r2,r1=u2::r2∧Ag w A (.c (.sl cV)) ab u2∧∃u3,r2=[u3]∧Ag w A (.g eN) v u3 from ha);have ja:us=#[u0,u1,u2,u3]:=by rw[← aE5 (xs:=us),e0]
 subst ja;obtain rfl:=By (aqd h1);obtain⟨vs,rfl,hv⟩:=at9 h3;obtain⟨p1,p2,ev,q1,q2⟩:=agx hv;have xg:vs=#[.int .i64 v.1,p1,p2]:=by rw[← aE5 (xs:=vs),ev]
 subst xg;refine(@Zm.calls ⟨A⟩ w hA rs ai ab v u0 u2 p1 p2 (aqd h0) (aqd h2) q1 q2 hp.1 hp.2.1 hp.2.2).mono fun en w' hh=>?_
 obtain⟨u,rfl,ho,hB⟩:=hh;refine⟨u,rfl,?_,hB⟩;have ho:bk w' A w.heap.size 38 6 ba (J1 (rs,ai,ab,v)) u:=ho;show Cl w' A (.sl ba) (eC (rs,ai,ab,v)) u;rw[← ahH];exact ho.cl rfl fun g hg he=>by have:=(ho.lt hg).1;have:=hA g he;omega
end Go.Proofs
namespace Go.AL
open Go.Proofs
def Un(a:List bA×Int×List bz×bU):List ao:=(ET a).map (eY (bu (ET a)) (bc a.2.2.1) a.2.2.2.2.1)
theorem M4(a:List bA×Int×List bz×bU):eC a=iS a.1 a.2.2.2 (Un a) (Un a) 0:=rfl
open Go.Proofs
open Go.Proofs
theorem Kf(c:Int)(e:ay):∀(l:List ax) (k:Nat),e∈o7 c l k↔∃(j:Nat) (s:ax),l[j]? = some s∧bJ s=false∧e=(c,((k+j:Nat):Int),snd s)
 | [],k=>by simp[o7]
 | s::l,k=>by
  have ih:=Kf c e l (k+1);have key:(∃(j:Nat) (t:ax),(s::l)[j]? = some t∧bJ t=false∧e=(c,((k+j:Nat):Int),snd t))↔(bJ s=false∧e=(c,((k:Nat):Int),snd s))∨∃(j:Nat) (t:ax),l[j]? = some t∧bJ t=false∧e=(c,((k+1+j:Nat):Int),snd t):=by
   constructor
   ·rintro⟨j,t,h1,h2,h3⟩
    cases j with
    | zero=>simp at h1;subst h1;exact .inl ⟨h2,h3⟩
    | succ j=>exact .inr ⟨j,t,by simpa using h1,h2,by rw[h3];congr 3;omega⟩
   ·rintro(⟨h1,h2⟩ | ⟨j,t,h1,h2,h3⟩)
    ·exact⟨0,s,rfl,h1,h2⟩
    ·exact⟨j+1,t,by simpa using h1,h2,by rw[h3];congr 3;omega⟩
  rw[key,← ih];simp only[o7];cases hb:bJ s with
  | true=>simp
  | false=>simp;rfl
theorem Ke(c:Int)(e:ay)(l:List ax):e∈gg (l,c)↔∃(j:Nat) (s:ax),l[j]? = some s∧bJ s=false∧e=(c,((j:Nat):Int),snd s):=by
 unfold gg;rw[(lz _).mem_iff,Kf];simp only[aC0]
theorem ahT(rs:List bA)(all:List ao)(v:bU)(k:Nat)(e:ay):e∈mO (rs,all,((k:Nat):Int),v)↔fa rs v.2.2 (v.2.1.getD k 0) e=true∧∃(i:Nat) (t:ao) (c:Int),all[i]? = some t∧v.2.1[i]? = some c∧∃(j:Nat) (s:ax),t.1[j]? = some s∧bJ s=false∧e=(c,((j:Nat):Int),snd s):=by
 have e1:mO (rs,all,((k:Nat):Int),v)=Nb rs v.2.2 (v.2.1.getD k 0) (all.zip v.2.1):=by
  rw[Na];rfl
 rw[e1];unfold Nb;rw[(lz _).mem_iff,aEO];constructor
 ·rintro⟨⟨t,c⟩,hp,he⟩
  obtain⟨h1,h2⟩:=aEz.1 he;obtain⟨i,hi⟩:=List.mem_iff_getElem?.1 hp;obtain⟨h3,h4⟩:=aFa.1 hi;exact⟨h2,i,t,c,h3,h4,(Ke c e t.1).1 h1⟩
 ·rintro⟨h2,i,t,c,h3,h4,h5⟩
  have hz:(all.zip v.2.1)[i]? = some (t,c):=aFa.2 ⟨h3,h4⟩;exact⟨(t,c),aCC hz,aEz.2 ⟨(Ke c e t.1).2 h5,h2⟩⟩
theorem Y8(a:List bA×Int×List bz×bU){k:Nat}{t:ao}(ht:(eC a)[k]? = some t)(e:ay):
  e∈t.2.2.2.2.1↔fa a.1 a.2.2.2.2.2 (a.2.2.2.2.1.getD k 0) e=true∧∃(i:Nat) (u:ao) (c:Int),(eC a)[i]? = some u∧a.2.2.2.2.1[i]? = some c∧∃(j:Nat) (s:ax),u.1[j]? = some s∧bJ s=false∧e=(c,((j:Nat):Int),snd s):=by
 have h2:=ht;rw[M4,vg]at h2;obtain⟨t0,_,rfl⟩:=aEL.1 h2;show e∈mO (a.1,Un a,((0+k:Nat):Int),a.2.2.2)↔_;rw[aC0,ahT];have key:∀(i j:Nat) (s:ax),(∃u:ao,(Un a)[i]? = some u∧u.1[j]? = some s)↔∃u:ao,(eC a)[i]? = some u∧u.1[j]? = some s:=fun i j s=>by
  have hf:(eC a).map (·.1)=(Un a).map (·.1):=by rw[M4,Bt]
  have hfi:=aCL (fun z=>z[i]?) hf;simp only[aDm]at hfi;constructor
  ·rintro⟨u,h1,h2⟩
   rw[h1]at hfi;obtain⟨w,hw,he⟩:=aEL.1 hfi;exact⟨w,hw,by rw[he];exact h2⟩
  ·rintro⟨u,h1,h2⟩
   rw[h1]at hfi;obtain⟨w,hw,he⟩:=aEL.1 hfi.symm;exact⟨w,hw,by rw[he];exact h2⟩
 constructor
 ·rintro⟨h1,i,u,c,h3,h4,j,s,h5,h6,h7⟩
  obtain⟨u',g1,g2⟩:=(key i j s).1 ⟨u,h3,h5⟩;exact⟨h1,i,u',c,g1,h4,j,s,g2,h6,h7⟩
 ·rintro⟨h1,i,u,c,h3,h4,j,s,h5,h6,h7⟩
  obtain⟨u',g1,g2⟩:=(key i j s).2 ⟨u,h3,h5⟩;exact⟨h1,i,u',c,g1,h4,j,s,g2,h6,h7⟩
open Go.Proofs
open Go.Proofs
open Go.Proofs
def m4(l:List Int):Nat→Nat→List kO→List kO
 | 0,_,q=>q
 | n+1,i,q=>m4 l n (i+1) (q++[(((i:Nat):Int),an3 (CJ (l,((15+i:Nat):Int))))])
def m2r(l:List Int)(fo:List ay)(i:Nat):bn:=avE (l.drop (13+i),(fo.getD (place (CJ (l,((i:Nat):Int)),((fo.length:Nat):Int))).toNat zq1).2.2)
def m2b(q:List bn)(r:bn):Bool:=match q.getLast? with
 | none=>true
 | some z=>cf (j9 z,j9 r)
def m2(l:List Int)(fo:List ay):Nat→Nat→List bn→List bn
 | 0,_,q=>q
 | n+1,i,q=>bif decide (fo.length=0)then q else m2 l fo n (i+1) (bif m2b q (m2r l fo i)then q++[m2r l fo i]else q)
def avo(v:al)(u:ax):ax:=bP (bP (bP (bP (bP (bP (bP (bP (bP (bP (bP (upS v))))))))))) u
def avn(v:Int)(u:ax):ax:=bP (bP (bP (bP (bP (bP (bP (bP (bP (bP (bP (ER v))))))))))) u
def m0k(l:List Int)(i:Nat)(u:ax):ax:=bif(place (CJ (l,((i:Nat):Int)),5) == 4)&&!bJ u then avo (an3 (IntKind.i64.wrap ((CJ (l,((i:Nat):Int))).tdiv 5))) u else u
def m0u(l:List Int)(i:Nat)(u:ax):ax:=bif place (CJ (l,((i:Nat):Int)),7) == 6 then avn (IntKind.i64.wrap (1+place (IntKind.i64.wrap ((CJ (l,((i:Nat):Int))).tdiv 7),20))) (m0k l i u)else m0k l i u
def m0(l:List Int):Nat→List ax→List ax
 | _,[]=>[]
 | i,u::r=>m0u l i u::m0 l (i+1) r
open Go.Proofs
open Go.Proofs
open Go.Proofs
open Go.Proofs
open Go.Proofs
open Go.Proofs
open Go.Proofs
open Go.Proofs
structure OkM (t:ao):Prop where
 sl:br t.1=true
 len:t.1.length≤1000000
 rq:fN t.2.1=true
 pn:t.2.1.length≤19
 op:∀r∈t.2.1,0≤r.2.1∧r.2.1≤4611686018427387904
 mks:t.2.2.1=[]
 an:t.2.2.2.1.length≤19
 en:zg t.2.2.2.2.1=true
 cm:t.2.2.2.2.2.length≤100000
theorem amC{ab:List bz}(h:ab.all ux=true)(c ai:Int):fN (eJ (c,ai,ab)).2.1=true:=by
 by_cases h0:aL (fun q:bz=>decide (q.1=c)) ab 0<0
 ·simp only[eJ,aCm h0,aCn]
  rfl
 ·have cg:aL (fun q:bz=>decide (q.1=c)) ab 0<0+(ab.length:Nat):=lJ _ ab 0 (Int.le_refl 0)
  have hm:=aCG.1 h (ab.getD (aL (fun q=>decide (q.1=c)) ab 0).toNat zq5) (by
   rw[aDB,aCF (by omega)];exact aEU _)
  simp only[ux,aCs,aCy]at hm;simp only[eJ,aCz h0,aCq];exact hm.2.2.1
theorem ZU{l q:List bn}(h:fN l=true)(hl:q.length≤l.length)(hs:∀r∈q,r∈l):fN q=true:=by
 simp only[fN,aCs,aCy,aCG]at h ⊢;exact⟨aCO hl h.1,fun r hr=>h.2 r (hs r hr)⟩
theorem Qz(a:List bA×Int×List bz×bU){i:Nat}{t:ao}(ht:(eC a)[i]? = some t):∃c,a.2.2.2.2.1[i]? = some c:=by
 have h:=(aCD.1 ht).1;rw[QA]at h;exact⟨_,aCF h⟩
theorem ahw(a:List bA×Int×List bz×bU)(hp:AT a=true){i:Nat}{t:ao}(ht:(eC a)[i]? = some t):OkM t:=by
 have hq:n9 a=true∧Ka a.2.2.1=true:=by
  simp only[AT,aCs]at hp;exact⟨hp.1,hp.2.1⟩
 have hr:=hq.1;simp only[n9,aCs,aCy]at hr;obtain⟨h1,h2,h3,h4,h5⟩:=hr;have ai:∀{i:Nat} {t:ao},(eC a)[i]? = some t→br t.1=true∧t.1.length≤1000000:=fun {i t} ht=>by
  obtain⟨c,hc⟩:=Qz a ht;obtain⟨s,g1,g2⟩:=Fb a hc;obtain rfl:=aDb (g1.symm.trans ht);have e1:s.1=(eY (bu (ET a)) (bc a.2.2.1) a.2.2.2.2.1 (e9 a.2.1 a.2.2.1 (bc a.2.2.1) c)).1:=aCL (·.1) g2;rw[e1];exact EV (Fc h3 (aCG.1 h2) c)
 obtain⟨c,hc⟩:=Qz a ht;obtain⟨s,g1,g2⟩:=Fb a hc;obtain rfl:=aDb (g1.symm.trans ht);obtain⟨s',k1,k2,k3,_⟩:=ahv a hc;obtain rfl:=aDb (k1.symm.trans g1);have e3:s'.2.2.1=(e9 a.2.1 a.2.2.1 (bc a.2.2.1) c).2.2.1:=aCL (·.2.2.1) g2;have e5:s'.2.2.2.2.2=(e9 a.2.1 a.2.2.1 (bc a.2.2.1) c).2.2.2.2.2:=aCL (·.2.2.2.2) g2;rw[← Fk]at e3 e5;obtain⟨p1,p2,_⟩:=JP hq.2 c a.2.1;have hfl:=aET (fun r=>!knB a c r) (eJ (c,a.2.1,a.2.2.1)).2.1;have awD:=aET (knB a c) (eJ (c,a.2.1,a.2.2.1)).2.1;refine⟨(ai ht).1,(ai ht).2,?_,by rw[k2];omega,fun r hr=>?_,e3,by rw[k3];omega,?_,?_⟩
 ·rw[k2];exact ZU (amC h2 c a.2.1) hfl (fun r hr=>(aEz.1 hr).1)
 ·rw[k2]at hr;exact p2 r (aEz.1 hr).1
 ·refine Np ?_ fun e he=>?_
  ·have h6:=ht
   rw[M4,vg]at h6;obtain⟨t0,_,rfl⟩:=aEL.1 h6;have e1:mO (a.1,Un a,((0+i:Nat):Int),a.2.2.2)=Nb a.1 a.2.2.2.2.2 (a.2.2.2.2.1.getD (0+i) 0) ((Un a).zip a.2.2.2.2.1):=by
    rw[Na];rfl
   show(mO (a.1,Un a,((0+i:Nat):Int),a.2.2.2)).length≤_;rw[e1];have e2:(Nb a.1 a.2.2.2.2.2 (a.2.2.2.2.1.getD (0+i) 0) ((Un a).zip a.2.2.2.2.1)).length=(lT a.1 a.2.2.2.2.2 (a.2.2.2.2.1.getD (0+i) 0) ((Un a).zip a.2.2.2.2.1)).length:=bt _;have e4:=@vB ⟨fun _=>False⟩ a.1 a.2.2.2.2.2 (a.2.2.2.2.1.getD (0+i) 0) ((Un a).zip a.2.2.2.2.1) (fun p hp=>by
    have hm:p.1∈Un a:=(List.of_mem_zip hp).1;obtain⟨x,hx,e⟩:=aCN.1 (show p.1∈(ET a).map _ from hm);obtain⟨c',_,rfl⟩:=aCN.1 (show x∈a.2.2.2.2.1.map _ from hx);rw[← e];exact(EV (Fc h3 (aCG.1 h2) c')).2)
   have e6:((Un a).zip a.2.2.2.2.1).length≤100:=by rw[List.length_zip];omega
   rw[e2];omega
  ·obtain⟨_,j,u,c',hu,_,m,s,hs,_,rfl⟩:=(Y8 a ht e).1 he
   exact eL (ai hu).1 (aCC hs)
 ·rw[e5];exact lN _ h1
theorem OkM.sta{t:ao}(h:OkM t):oR t=true:=by
 simp only[oR,aCs];have h1:=h.an;have h2:=h.cm;exact⟨h.sl,h.rq,by rw[h.mks];rfl,aCm (by omega),h.en,aCm (by omega)⟩
open Go.Proofs
noncomputable def P0:cR:=⟨Tryz.prog,[afy,LZ,Pr,L4,Ci,tS,afa],dn [(1,([(0,[]),(2,[]),(3,[]),(5,[1]),(1,[]),(4,[]),(6,[]),(7,[])],[(9,9),(12,18)])),(8,([(0,[]),(1,[]),(2,[]),(3,[]),(4,[]),(5,[]),(6,[]),(7,[]),(8,[]),(9,[])],[(44,53)]))],54,[],[(13,dB)],[],[]⟩
theorem ajr:bp Tryz.prog [afy,LZ,Pr,L4,Ci,tS,afa] [] []:=ak afx (ak LY (ak WN (ak L3 (ak EA (ak xD (ak ae9 (aD)))))))
def zN:Nat→LD:=ej [(0,⟨[.c 9 (.sl ba),.c 10 (.sl ba),.c 11 (.int .i64)],[],0⟩)]
noncomputable def ad4(f:Nat)(a:(List (bA))×Int×(List (bz))×bU):Option (Bool):=(aG (P0) zN (aQ Tryz.prog [.tmp 8] [.v (.bool)]) f [.code (aC Tryz.f12)] (aV [.c (.sl dB),.c (.int .i64),.c (.sl cV),.g eN] a):Option (aA [.v (.bool)]))
noncomputable def ru(f:Nat)(x:(List (ao))×(List (ao))×Int):Option (Bool):=(aG (P0) zN (aQ Tryz.prog [.tmp 8] [.v (.bool)]) f (aK Tryz.f12 0) ((zN 0).mk' x):Option (aA [.v (.bool)]))
theorem Wh(f:Nat)(rs:List (bA))(ai:Int)(l:List (bz))(v:bU):ad4 (f+1) (rs,ai,l,v) =
  bif decide (rs.length*24≤140737488355328)then bif FT l then bif Go.Proofs.AT (rs,ai,l,v)then bif n9 (rs,ai,l,v)then bif(↑(eC (rs,ai,l,v)).length:Int) != (↑(eC (rs,ai,l,v)).length:Int)then some false else bif FT l then bif lO l then bif lO l then bif af (bc l)then bif !decide (bc l=bc l)then some false else ru f (eC (rs,ai,l,v),eC (rs,ai,l,v),0)else none else none else none else none else none else none else none else none:=by kernel_rfl
theorem yI(f:Nat)(x:List (ao))(y:List (ao))(i:Int):ru (f+1) (x,y,i) =
  bif decide (i<(↑x.length:Int))then bif decide (0≤i)&&decide (i<(↑x.length:Int))then bif decide (0≤i)&&decide (i<(↑y.length:Int))then bif oR (x.getD i.toNat ([],[],[],[],[],[]))then bif !EX (x.getD i.toNat ([],[],[],[],[],[])) (y.getD i.toNat ([],[],[],[],[],[]))then some false else ru f (x,y,IntKind.i64.wrap (i+1))else none else none else none else some true:=by kernel_rfl
noncomputable def rF:List (ao)→((List (ao))×(List (ao))×Nat)→Bool
 | [],(x,y,i)=>true
 | uu::rest,(x,y,i)=>bif !EX uu (y.getD (↑i:Int).toNat ([],[],[],[],[],[]))then false else rF rest (x,y,i+1)
noncomputable def qC:List (ao)→((List (ao))×(List (ao))×Nat)→Bool
 | [],(x,y,i)=>true
 | uu::rest,(x,y,i)=>decide ((↑i:Int)<(↑y.length:Int))&&(oR uu&&bif !EX uu (y.getD (↑i:Int).toNat ([],[],[],[],[],[]))then true else qC rest (x,y,i+1))
theorem Mo:∀(rest:List (ao)) (x:List (ao)) (y:List (ao)) (i:Nat) (hd:x.drop i=rest) (hl:x.length≤1099511627776),cj (fun f=>ru f (x,y,((i:Nat):Int))) (qC rest (x,y,i)) (rF rest (x,y,i))
 | [],x,y,i,hd,hl=>ah (fun f=>(yI f _ _ _).trans (by simp only[bW (aY hd),cB,aCw,aCu,aCn,aCq,aCx]<;>rfl)) ae
 | uu::rest,x,y,i,hd,hl=>ah (fun f=>(yI f _ _ _).trans (by simp only[bl (ag hd),aI hd,aM (ag hd) hl,aR (ag hd),cB,aCw,aCu,aCn,aCq,aCx]<;>rfl)) (aE (aE (aw ae (Mo rest _ _ _ (by first | exact aq hd | exact drop_set hd | exact au (drop_set hd)) (by first | exact hl | simpa using hl)))))
noncomputable def Hc:((List (bA))×Int×(List (bz))×bU)→Bool
 | (rs,ai,l,v)=>bif(↑(eC (rs,ai,l,v)).length:Int) != (↑(eC (rs,ai,l,v)).length:Int)then false else bif !decide (bc l=bc l)then false else rF (eC (rs,ai,l,v)) (eC (rs,ai,l,v),eC (rs,ai,l,v),0)
noncomputable def GL:((List (bA))×Int×(List (bz))×bU)→Bool
 | (rs,ai,l,v)=>decide (rs.length*24≤140737488355328)&&(FT l&&(Go.Proofs.AT (rs,ai,l,v)&&(n9 (rs,ai,l,v)&&bif(↑(eC (rs,ai,l,v)).length:Int) != (↑(eC (rs,ai,l,v)).length:Int)then true else FT l&&(lO l&&(lO l&&(af (bc l)&&bif !decide (bc l=bc l)then true else decide ((eC (rs,ai,l,v)).length≤1099511627776)&&qC (eC (rs,ai,l,v)) (eC (rs,ai,l,v),eC (rs,ai,l,v),0)))))))
theorem UW:∀a:(List (bA))×Int×(List (bz))×bU,cj (fun f=>ad4 f a) (GL a) (Hc a)
 | (rs,ai,l,v)=>ah (fun f=>Wh f _ _ _ _) (aE (aE (aE (aE (aw ae (aE (aE (aE (aE (aw ae (bC fun hh=>Mo _ _ _ _ rfl (aCE hh))))))))))))
def o3(a:List bA×Int×List bz×bU):Bool:=AT a&&FT a.2.2.1
theorem abj(y:List ao)(hy:∀t∈y,oR t=true):∀(r:List ao) (k:Nat),y.drop k=r→rF r (y,y,k)=true∧qC r (y,y,k)=true
 | [],k,h=>⟨rfl,rfl⟩
 | u::r,k,h=>by
  obtain⟨i1,i2⟩:=abj y hy r (k+1) (aq h);have hk:=ag h;have hg:y.getD ((k:Int)).toNat ([],[],[],[],[],[])=u:=aI h _;have hs:EX u u=true:=by simp[EX]
  have hu:oR u=true:=hy u (aDU (by rw[h];exact aCK));simp only[rF,qC,hg,hs,hu,i1,i2];exact⟨rfl,by rw[aCm (show(k:Int)<(y.length:Int)by omega)];rfl⟩
theorem DW:∀a,o3 a=true→GL a=true∧Hc a=true:=by
 rintro⟨rs,ai,l,v⟩ h;simp only[o3,aCs]at h;obtain⟨hm,hc⟩:=h;have hq:n9 (rs,ai,l,v)=true∧Ka l=true:=by
  have h:=hm;simp only[AT,aCs]at h;exact⟨h.1,h.2.1⟩
 have hr:=hq.1;simp only[n9,aCs,aCy,af]at hr;have hd:=lN l hr.1;obtain⟨e1,e2⟩:=abj (eC (rs,ai,l,v)) (fun t ht=>by
  obtain⟨i,hi⟩:=List.mem_iff_getElem?.1 ht;exact(ahw _ hm hi).sta) _ 0 rfl
 rw[aED]at e1 e2;have hl:(eC (rs,ai,l,v)).length≤1099511627776:=by
  rw[QA];have h5:v.2.1.length≤100:=hr.2.2.2.2;show v.2.1.length≤_;omega
 simp only[GL,Hc,hm,hc,hq.1,hr.1,e1,e2];rw[aCm (show rs.length*24≤140737488355328 by have:=hr.2.2.2.1;omega),aCm hl,show af (bc l)=true from aCm (by omega)];simp
theorem apb:∀a,o3 a=true→GL a=true:=fun a h=>(DW a h).1
theorem apc:∀a,o3 a=true→Hc a=(fun _=>true) a:=fun a h=>(DW a h).2
abbrev abi:=bm UW apb apc
noncomputable def PE:db:=⟨12,[.c (.sl dB),.c (.int .i64),.c (.sl cV),.g eN],[.v (.bool)],fun a=>(o3:(List (bA))×Int×(List (bz))×bU→Bool) a,fun a=>(fun _=>true:(List (bA))×Int×(List (bz))×bU→Bool) a⟩
theorem WZ:PE.Ok Tryz.prog:=eB (C:=P0) (Lt:=zN) (rs:=[.tmp 8]) mixed ajr Tryz.func12 rfl rfl rfl (by kernel_rfl) (by kernel_rfl) abi
open Go.Proofs
noncomputable def amj:cR:=⟨Tryz.prog,[Pt,LZ,gN,L4],dn [(4,([(1,[]),(2,[]),(3,[]),(4,[]),(5,[]),(0,[]),(6,[]),(7,[])],[(4,4),(18,24)]))],60,[],[(12,aW),(15,yP),(20,cV),(21,[.int .i64]),(22,[.int .i64])],[],[]⟩
theorem apG:bp Tryz.prog [Pt,LZ,gN,L4] [] []:=ak WQ (ak LY (ak jf (ak L3 (aD))))
def aev:Nat→LD:=ej []
noncomputable def al1(f:Nat)(a:Unit):Option (Bool):=(aG (amj) aev (aQ Tryz.prog [.tmp 0] [.v (.bool)]) f [.code (aC Tryz.f9)] (aV [] a):Option (aA [.v (.bool)]))
theorem ael(f:Nat):al1 (f+1) () =
  some ((↑(bc [(0,0,[],[],[(0,1,0,[],2,0,12,3,0,0,false,0,1,9,0)],[],[(0,1,9,0)],[],[],[],false,0,[],[],[],[],[],[],[],[])]).length:Int) == 1):=by kernel_rfl
noncomputable def al8:Unit→Bool
 | ()=>(↑(bc [(0,0,[],[],[(0,1,0,[],2,0,12,3,0,0,false,0,1,9,0)],[],[(0,1,9,0)],[],[],[],false,0,[],[],[],[],[],[],[],[])]).length:Int) == 1
noncomputable def alB:Unit→Bool
 | ()=>true
theorem acf:∀a:Unit,cj (fun f=>al1 f a) (alB a) (al8 a)
 | ()=>ah (fun f=>ael f) ae
theorem at4:∀a:Unit,(fun _=>true) a=true→alB a=true:=fun _ _=>by kernel_rfl
theorem at5:∀a:Unit,(fun _=>true) a=true→al8 a=(fun _=>true) a:=fun _ _=>by kernel_rfl
abbrev ajY:=bm acf at4 at5
noncomputable def afC:db:=⟨9,[],[.v (.bool)],fun a=>(fun _=>true:Unit→Bool) a,fun a=>(fun _=>true:Unit→Bool) a⟩
theorem afB:afC.Ok Tryz.prog:=eB (C:=amj) (Lt:=aev) (rs:=[.tmp 0]) mixed apG Tryz.func9 rfl rfl rfl (by kernel_rfl) (by kernel_rfl) ajY
open Go.Proofs
def iG{α:Type}(l:List α):Bool:=decide (l.length≤9223372036854775807)
def EP(s:ao):Bool:=decide (s.1.length≤68719476736)&&(iG s.2.1&&(iG s.2.2.1&&(iG s.2.2.2.1&&(iG s.2.2.2.2.1&&iG s.2.2.2.2.2))))
theorem akm(s:ao)(hl:s.2.2.2.2.1.length≤9223372036854775807):∀(r:List _) (i:Nat),s.2.2.2.2.1.drop i=r→km r (s,i)=true
 | [],i,h=>by simp only[km]
 | u::r,i,h=>by
  have ih:=akm s hl r (i+1) (aq h);have hi:=ag h;simp only[km,ih];by_cases h0:(i:Int)>0
  ·have w1:IntKind.i64.wrap ((i:Int)-1)=(i:Int)-1:=aN (by omega) (by omega)
   rw[w1,aCm h0,aCm (show(0:Int)≤(i:Int)-1 by omega),aCm (show(i:Int)-1<(List.length s.2.2.2.2.1:Int)by omega)];simp
  ·rw[aCz h0];simp
theorem akn(s:ao)(hl:s.2.2.2.1.length≤9223372036854775807)(hn:km s.2.2.2.2.1 (s,0)=true)(hm:s.2.2.2.2.1.length≤9223372036854775807):∀(r:List _) (i:Nat),s.2.2.2.1.drop i=r→ko r (s,i)=true
 | [],i,h=>by simp only[ko,hn,aCm hm];rfl
 | u::r,i,h=>by
  have ih:=akn s hl hn hm r (i+1) (aq h);have hi:=ag h;simp only[ko,ih];by_cases h0:(i:Int)>0
  ·have w1:IntKind.i64.wrap ((i:Int)-1)=(i:Int)-1:=aN (by omega) (by omega)
   rw[w1,aCm h0,aCm (show(0:Int)≤(i:Int)-1 by omega),aCm (show(i:Int)-1<(List.length s.2.2.2.1:Int)by omega)];simp
  ·rw[aCz h0];simp
theorem ako(s:ao)(hl:s.2.2.1.length≤9223372036854775807)(hn:ko s.2.2.2.1 (s,0)=true)(hm:s.2.2.2.1.length≤9223372036854775807):∀(r:List _) (i:Nat),s.2.2.1.drop i=r→kq r (s,i)=true
 | [],i,h=>by simp only[kq,hn,aCm hm];rfl
 | u::r,i,h=>by
  have ih:=ako s hl hn hm r (i+1) (aq h);have hi:=ag h;simp only[kq,ih];by_cases h0:(i:Int)>0
  ·have w1:IntKind.i64.wrap ((i:Int)-1)=(i:Int)-1:=aN (by omega) (by omega)
   rw[w1,aCm h0,aCm (show(0:Int)≤(i:Int)-1 by omega),aCm (show(i:Int)-1<(List.length s.2.2.1:Int)by omega)];simp
  ·rw[aCz h0];simp
theorem akp(s:ao)(hl:s.2.1.length≤9223372036854775807)(hn:kq s.2.2.1 (s,0)=true)(hm:s.2.2.1.length≤9223372036854775807):∀(r:List _) (i:Nat),s.2.1.drop i=r→kr r (s,i)=true
 | [],i,h=>by simp only[kr,hn,aCm hm];rfl
 | u::r,i,h=>by
  have ih:=akp s hl hn hm r (i+1) (aq h);have hi:=ag h;simp only[kr,ih];by_cases h0:(i:Int)>0
  ·have w1:IntKind.i64.wrap ((i:Int)-1)=(i:Int)-1:=aN (by omega) (by omega)
   rw[w1,aCm h0,aCm (show(0:Int)≤(i:Int)-1 by omega),aCm (show(i:Int)-1<(List.length s.2.1:Int)by omega)];simp
  ·rw[aCz h0];simp
theorem aq9:∀s,EP s=true→acv s=true:=fun s h=>by
 simp only[EP,iG,aCs,aCy]at h;obtain⟨h1,h2,h3,h4,h5,h6⟩:=h;have k:kr s.2.1 (s,0)=true:=akp s h2 (ako s h3 (akn s h4 (akm s h5 _ 0 rfl) h5 _ 0 rfl) h4 _ 0 rfl) h3 _ 0 rfl;simp only[acv,k];rw[aCm h1,aCm h2,aCm h6];simp
theorem agL:∀s,EP s=true→∃f,ac4 f s=some (rA s):=fun s h=>Xx s (aq9 s h)
noncomputable def ae2:db:=⟨15,[.g ba],[.v (.bool)],fun a:ao=>EP a,fun a:ao=>rA a⟩
theorem ae1:ae2.Ok Tryz.prog:=eB (C:=EG) (Lt:=kP) (rs:=[.tmp 2]) mixed apd Tryz.func15 rfl rfl rfl (by kernel_rfl) (by kernel_rfl) agL
theorem Qj{r:bn}(h:kB r=true):0≤r.2.1∧r.2.1≤4611686018427387904∧af (Ax r)=true:=by
 have step:∀(c x:Bool),(bif c then false else x)=true→c=false∧x=true:=fun c x=>by cases c<;>simp
 simp only[kB]at h;obtain⟨h1,h⟩:=step _ _ h;obtain⟨_,h⟩:=step _ _ h;obtain⟨_,h⟩:=step _ _ h;obtain⟨_,h⟩:=step _ _ h;have h1:dY (r.1,r.2.1,r.2.2.1)=true:=by
  simp only[aEW,CZ,aCs]at h1;exact h1.1
 simp only[dY,aCs,aCy]at h1;have hX:(bif r.2.2.2.1 == 1 then decide (r.2.2.2.2.2.2.2.2.2.2.2.2.2.2.2.2.2=zq0)else ee r.2.2.2.2.2.2.2.2.2.2.2.2.2.2.2.2.2)=true:=by
  revert h
  generalize (r.2.2.2.2.2.2.2.2.2.2.2.2.2.2.2.2.1 != 32)=c;generalize (r.2.2.2.2.2.2.2.2.2.2.2.2.2.2.2.2.1 != 39)=d;cases c<;>cases d<;>simp
 refine⟨by omega,by omega,?_⟩
 revert hX
 generalize (r.2.2.2.1 == 1)=c;cases c with
 | true=>
  simp only[aCn,aCy];intro e;have:Ax r=[]:=aCL (fun z:dX=>z.2.2.2.1) e;rw[this];rfl
 | false=>
  simp only[aCq,ee,aCs,aCy];intro e;have:(Ax r).length≤8:=e.2.2.1;exact aCm (by omega)
theorem Qh(s:ao):∀(r:List bn) (i:Nat),sz r (s,i)=true→∀x∈r,kB x=true
 | [],i,h,x,hx=>by cases hx
 | u::r,i,h,x,hx=>by
  simp only[sz]at h;have hu:kB u=true:=by
   cases hq:kB u with
   | true=>rfl
   | false=>rw[hq]at h;simp at h
  rcases aCJ.1 hx with rfl | hx
  ·exact hu
  ·refine Qh s r (i+1) ?_ x hx
   rw[hu]at h;simp only[aEm,aCq]at h
   revert h
   cases decide ((i:Int)>0)with
   | false=>exact fun h=>h
   | true=>
    rw[aCn];generalize (!cf _)=c;cases c with
    | true=>intro h;cases h
    | false=>exact fun h=>h
theorem agM{s:ao}(h:rA s=true):pb s.1=true∧∀r∈s.2.1,kB r=true:=by
 simp only[rA]at h;have h1:pb s.1=true:=by
  cases hq:pb s.1 with
  | true=>rfl
  | false=>rw[hq]at h;simp at h
 refine⟨h1,?_⟩;rw[h1]at h;simp only[aEm,aCq]at h
 revert h
 generalize (!Fz true s.2.2.2.2.2)=c;cases c with
 | true=>intro h;cases h
 | false=>exact fun h=>Qh s s.2.1 0 h
theorem KM:∀(l pre:List ax),sZ pre l=true→∀s∈l,Qi s=true
 | [],pre,h,s,hs=>by cases hs
 | u::l,pre,h,s,hs=>by
  simp only[sZ,aCs]at h;rcases aCJ.1 hs with rfl | hs
  ·exact h.1
  ·exact KM l _ h.2.2 s hs
theorem ajI{l:List ax}(h:pb l=true):br l=true:=by
 simp only[pb,aCs,aCy]at h;refine rP (by omega) fun s hs=>?_
 have h1:=KM l [] h.2 s hs;simp only[Qi,aCs]at h1;have h2:=h1.2.2;cases he:bJ s with
 | true=>
  rw[he]at h2;simp only[aCn,aCs,aCy]at h2;have h3:(snd s).2.2.2.1=z8.2.2.2.1:=by rw[h2.1]
  have h3:s.2.2.2.1=[]:=h3;rw[h3];rfl
 | false=>
  rw[he]at h2;simp only[aCq,aCs]at h2;have h3:=h2.1;simp only[ee,aCs,aCy]at h3;have h4:s.2.2.2.1.length≤8:=h3.2.2.1;exact aCm (by omega)
open Go.RowKit
def rdA(x y:V):Prop:=y=x∨∃rows,x=.sl rows∧y=.rd rows
theorem Ew.pur{P:Program}{g:FuncId}{args dp:List V}{Pd:List RD→Prop}(h:Ew P g args Pd)(hs:∀rds,Pd rds→∀rd∈rds,rd.wQ=true)(hv:aP rdA args dp):Ew P g dp Pd:=by
 refine⟨h.1,fun w A vs hA dC hrel=>?_⟩;have S:Step ⟨w,A,fY,iF⟩ ⟨w,fun _=>False,fY,iF⟩:=⟨fun _ _ _=>rfl,aCt _,fun _ _ h=>h.elim,fun _ _ h=>h⟩;have H0:cz ⟨w,A,fY,iF⟩:=⟨fun o ob ho=>by simp[fY]at ho,fun o o' ob ob' b ho=>by simp[fY]at ho,hA⟩;have amr:∀x u,Rel ⟨w,A,fY,iF⟩ x u→Rel ⟨w,fun _=>False,fY,iF⟩ x u:=fun x u hr=>by
  have:=Rel.step H0 S (fun _=>false) (fun p _ ob ho=>by simp[fY]at ho) hr
  rwa [V.bV]at this
 refine(h.2 w (fun _=>False) vs (fun b hb=>hb.elim) (by rw[dC,hv.len]) (fun i x hx=>?_)).mono ?_
 ·obtain⟨y,hy,uQ⟩:=hv.ao6 i x hx
  obtain⟨u,h1,h2⟩:=hrel i y hy;refine⟨u,h1,?_⟩;rcases uQ with rfl | ⟨rows,rfl,rfl⟩
  ·exact amr _ _ h2
  ·exact(cH.aU (mM.2 (gC.frame (w:=w) (w':=w) (fun _ _ _=>rfl) (fun _ _ _=>rfl) (aCt _) (fun _ _ h=>h.elim) (fun _ _ h=>h.elim) (show gC w A _ rows u from h2)))).rel
 ·rintro e w' ⟨rds,us,β',A',xQ,rfl,hp⟩
  exact⟨rds,us,iF,A,xQ,rfl,AH hA hp (hs rds xQ)⟩
theorem Vq(b:Bool):∀rds,cw [.v .bool] b rds→∀rd∈rds,rd.wQ=true:=fun rds h=>JV [.v .bool] b rds rfl h
