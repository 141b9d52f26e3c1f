/- By an AI agent. -/
import Derived.Test.YtfggefeflojnkaaGreatY5
import Derived.MapFrom
set_option linter.unusedSimpArgs false
set_option linter.unusedVariables false
set_option linter.unusedSectionVars false
open Go.IntKind (i64 u64)
namespace Go.AL
open Go.Proofs
def iU(au:Int)(ab:List cC)(d:List aj)(c:Int):ay:=
 bif decide (bu (fun q=>decide (q.1=c)) ab 0<0)then(List.replicate (max au 0).toNat iR,[],[],[],[],d)
 else((oe (ab.getD (bu (fun q=>decide (q.1=c)) ab 0).toNat zq5).2.2.2.2.1 d).map nY,(ab.getD (bu (fun q=>decide (q.1=c)) ab 0).toNat zq5).2.2.2.2.2.1,[],[],[],d)
def AZ(r:cC):Bool:=ct r.2.2.2.2.1&&(decide (r.2.2.2.2.1.length≤1000000)&&(ke r.2.2.2.2.2.1&&decide (r.2.2.2.2.2.1.length≤1000000)))
theorem zg(h:aj→Bool)(d:List aj)(m:List Int):∀(q:List bR) (l:List aL) (left:List bR) (an:List dv),ct l=true→ct (og h d m q l left an).1=true∧(og h d m q l left an).1.length=l.length
 | [],l,left,an,hl=>⟨hl,rfl⟩
 | r::q,l,left,an,hl=>by
  simp only[og];cases (ij h l r d m).2
  ·exact zg h d m q l _ an hl
  ·obtain⟨h1,h2⟩:=zg h d m q (ny (l,(tZ r).2.1)) left (an++[((tZ r).2.1,(ij h l r d m).1)]) (PD _ hl)
   exact⟨h1,h2.trans (by simp[ny])⟩
def SK(s:ay):Bool:=ct s.1&&(decide (s.1.length≤1000000)&&decide (s.2.1.length≤1000000))
theorem WT{h:aj→Bool}{d:List aj}{m:List Int}{s:ay}(hs:SK s=true):ct (sJ h d m s).1=true∧(sJ h d m s).1.length≤1000000:=by
 simp only[SK,azF,azM]at hs;obtain⟨h1,h2⟩:=zg h d m s.2.1 s.1 [] [] hs.1;exact⟨h1,by show(og h d m s.2.1 s.1 [] []).1.length≤_;omega⟩
def BZ(rs:List eB)(v:jf)(all:List ay):List ay→Nat→List ay
 | [],_=>[]
 | s::r,k=>(s.1,s.2.1,s.2.2.1,s.2.2.2.1,MR (rs,all,((k:Nat):Int),v),s.2.2.2.2.2)::BZ rs v all r (k+1)
theorem KH(rs:List eB)(v:jf)(all:List ay):∀(r:List ay) (k:Nat),(BZ rs v all r k).length=r.length
 | [],k=>rfl
 | s::r,k=>by simp only[BZ,azL,KH rs v all r]
theorem KJ(rs:List eB)(v:jf)(all:List ay):∀(r:List ay) (k:Nat),(BZ rs v all r k).map (·.1)=r.map (·.1)
 | [],k=>rfl
 | s::r,k=>by simp only[BZ,aAy,KJ rs v all r]
def FG(a:List eB×Int×List cC×jf):Bool:=xe a.2.2.1&&((a.2.2.1.all AZ)&&(decide (a.2.1≤1000000)&&(af a.1&&decide (a.2.2.2.2.1.length≤100))))
def gi(a:List eB×Int×List cC×jf):List ay:=
 (fun o=>(fun o2=>BZ a.1 a.2.2.2 o2 o2 0) (o.map (sJ (jL o) (aX a.2.2.1) a.2.2.2.2.1))) (a.2.2.2.2.1.map (iU a.2.1 a.2.2.1 (aX a.2.2.1)))
theorem oU(l:List cC)(h:xe l=true):(aX l).length≤100000:=by
 simp only[xe,azF,azM]at h;have key:∀(r:List cC) (o:List aj),(∀x∈r,(rR x).length≤1000)→(r.foldl (fun o r=>(rR r).foldl (fun o m=>qf o m.2) o) o).length≤o.length+1000*r.length:=by
  intro r;induction r with
  | nil=>intro o _;simp
  | cons x r ih=>
   intro o hx;have h1:=KO (rR x) o;have h2:=hx x (az1 ..);have h3:=ih ((rR x).foldl (fun o m=>qf o m.2) o) (fun y hy=>hx y (az6 _ hy));simp only[aAN,azL];omega
 have:=key l [] (fun x hx=>by have:=azU.1 h.2 x hx;simpa using this);simp only[az2]at this;show(aX l).length≤_;unfold aX;omega
theorem MB{au:Int}{ab:List cC}{d:List aj}(hs:au≤1000000)(hp:∀r∈ab,AZ r=true)(c:Int):SK (iU au ab d c)=true:=by
 have hsw:∀(d:List aj) (l:List aL),ct l=true→ct (oe l d)=true∧(oe l d).length=l.length:=by
  intro d;induction d with
  | nil=>intro l h;exact⟨h,rfl⟩
  | cons x d ih=>
   intro l h;obtain⟨h1,h2⟩:=ih (tS (l,x)).1 (Pm x h);exact⟨h1,h2.trans (by simp[tS])⟩
 have hul:∀l:List aL,ct l=true→ct (l.map nY)=true:=fun l h=>uo (by simpa using fD h) fun s hs=>by
  obtain⟨x,hx,rfl⟩:=az4.1 hs;have h2:af x.2.2.2.1=true:=gk h hx;exact h2
 by_cases h0:bu (fun q=>decide (q.1=c)) ab 0<0
 ·simp only[iU,azC h0,azH,SK,azF,azM]
  refine⟨uo (by simp;omega) fun s hs=>?_,by simp;omega,by simp⟩;rw[(aBH.1 hs).2];rfl
 ·have bO:bu (fun q:cC=>decide (q.1=c)) ab 0<0+(ab.length:Nat):=jO _ ab 0 (aBl 0)
  have hm:=hp (ab.getD (bu (fun q=>decide (q.1=c)) ab 0).toNat zq5) (by
   rw[aAm,azS (by omega)];exact aBC _)
  simp only[AZ,azF,azM]at hm;obtain⟨h1,h2⟩:=hsw d _ hm.1;simp only[iU,azK h0,azI,SK,azF,azM];exact⟨hul _ h1,by rw[aA7,h2];exact hm.2.1,hm.2.2.2⟩
open Go.Proofs
def vf:aj→List aj→List aj
 | _,[]=>[]
 | x,y::r=>bif decide (y=x)then vf x r else y::vf y r
def nD:List aj→List aj
 | []=>[]
 | x::r=>x::vf x r
def yK(a b:aj):Bool:=cw (a,b)
theorem ao8:qt yK:=⟨fun a b h=>BA h,fun a b c h1 h2=>by
 unfold yK at *;cases h:cw (c,a)with
 | false=>rfl
 | true=>
  by_cases hab:a=b
  ·subst hab;rw[h]at h2;cases h2
  ·have:=mn h1 (fun e=>hab e.symm)
   rw[jG h this]at h2;cases h2⟩
def Asc(l:List aj):Prop:=l.Pairwise fun a b=>cw (a,b)=true
theorem Asc.eq:∀{a b:List aj},Asc a→Asc b→(∀x,x∈a↔x∈b)→a=b
 | [],[],_,_,_=>rfl
 | [],y::b,_,_,h=>absurd ((h y).2 az1) (by simp)
 | x::a,[],_,_,h=>absurd ((h x).1 az1) (by simp)
 | x::a,y::b,ha,hb,h=>by
  have ha':=aAq.1 ha;have gW:=aAq.1 hb;have uH:x=y:=by
   rcases azW.1 ((h x).1 az1)with e | e
   ·exact e
   ·rcases azW.1 ((h y).2 az1)with e2 | e2
    ·exact e2.symm
    ·have h1:=ha'.1 y e2
     have h2:=gW.1 x e;rw[BA h1]at h2;cases h2
  subst uH;rw[Asc.eq ha'.2 gW.2 fun z=>?_];have:=h z;simp only[azW]at this;constructor
  ·intro hz
   rcases this.1 (.inr hz)with e | e
   ·subst e;have:=ha'.1 z hz;rw[im]at this;cases this
   ·exact e
  ·intro hz
   rcases this.2 (.inr hz)with e | e
   ·subst e;have:=gW.1 z hz;rw[im]at this;cases this
   ·exact e
theorem Bq(id:aj):∀(l:List aj) (x:aj),x∈qf l id↔x=id∨x∈l
 | [],x=>by simp[qf]
 | u::r,x=>by
  have ih:=Bq id r x;simp only[qf];cases cw (u,id)with
  | true=>simp only[azH,azW,ih];constructor<;>(intro h;rcases h with h | h | h<;>simp[h])
  | false=>
   by_cases hu:u=id
   ·rw[azC hu];simp only[azH,azI,azW,hu];constructor
    ·exact .inr
    ·rintro(h | h)
     ·exact .inl h
     ·exact h
   ·rw[azK hu];simp only[azI,azW]
theorem K5(id:aj):∀l:List aj,Asc l→Asc (qf l id)
 | [],_=>List.pairwise_singleton _ _
 | u::r,h=>by
  have h':=aAq.1 h;simp only[qf];cases hl:cw (u,id)with
  | true=>
   refine aAq.2 ⟨fun x hx=>?_,K5 id r h'.2⟩;rcases(Bq id r x).1 hx with rfl | hx
   ·exact hl
   ·exact h'.1 x hx
  | false=>
   by_cases hu:u=id
   ·rw[azC hu];exact h
   ·rw[azK hu]
    have h1:=mn hl hu;refine aAq.2 ⟨fun x hx=>?_,h⟩;rcases azW.1 hx with rfl | hx
    ·exact h1
    ·exact jG h1 (h'.1 x hx)
theorem K4:∀(l o:List aj),Asc o→Asc (l.foldl qf o)
 | [],o,h=>h
 | x::l,o,h=>K4 l _ (K5 x o h)
theorem Bo:∀(l o:List aj) (x:aj),x∈l.foldl qf o↔x∈o∨x∈l
 | [],o,x=>by simp
 | y::l,o,x=>by
  rw[aAN,Bo l,Bq,azW];constructor
  ·rintro((h | h) | h)<;>simp[h]
  ·rintro(h | h | h)<;>simp[h]
theorem Bp:∀(l:List aj) (x z:aj),(z=x∨z∈vf x l)↔(z=x∨z∈l)
 | [],x,z=>by simp[vf]
 | y::r,x,z=>by
  simp only[vf];by_cases h:y=x
  ·rw[azC h]
   subst h;rw[azH,Bp r y z,azW];constructor
   ·rintro(h | h)<;>simp[h]
   ·rintro(h | h | h)<;>simp[h]
  ·rw[azK h,azI,azW,azW]
   have:=Bp r y z;constructor
   ·rintro(h | h)
    ·exact .inl h
    ·exact .inr (this.1 h)
   ·rintro(h | h)
    ·exact .inl h
    ·exact .inr (this.2 h)
theorem CA:∀(l:List aj) (x:aj),dD yK (x::l)→Asc (x::vf x l)
 | [],x,_=>List.pairwise_singleton _ _
 | y::r,x,h=>by
  have h1:=aAq.1 h;have h2:=aAq.1 h1.2;simp only[vf];by_cases hy:y=x
  ·rw[azC hy]
   subst hy;exact CA r y h1.2
  ·rw[azK hy,azI]
   have h3:=CA r y h1.2;have uH:cw (x,y)=true:=mn (h1.1 y az1) hy;refine aAq.2 ⟨fun z hz=>?_,h3⟩;rcases azW.1 hz with rfl | hz
   ·exact uH
   ·exact jG uH ((aAq.1 h3).1 z hz)
theorem aai(l:List aj):nD (ca yK l)=l.foldl qf []:=by
 have hs:=jy ao8 l;have hp:=lb (lt:=yK) l;refine Asc.eq ?_ (K4 l [] .nil) fun x=>?_
 ·cases hq:ca yK l with
  | nil=>exact .nil
  | cons x r=>rw[hq]at hs;exact CA r x hs
 ·rw[Bo]
  cases hq:ca yK l with
  | nil=>
   rw[hq]at hp;have:l=[]:=hp.symm.eq_nil;subst this;simp[nD]
  | cons y r=>
   rw[hq]at hp;rw[← hp.mem_iff];simp only[nD,azW,aB4,false_or];exact Bp r y x
def allM(l:List cC):List aj:=l.flatMap fun r=>(rR r).map (·.2)
theorem KN(l:List cC):aX l=(allM l).foldl qf []:=by
 unfold aX allM;generalize ([]:List aj)=o;induction l generalizing o with
 | nil=>rfl
 | cons r l ih=>
  rw[aAN,aBO,aBU,ih]
  congr 1
  rw[List.foldl_map]
theorem Gk(l:List cC):nD (ca yK (allM l))=aX l:=by rw[aai,KN]
open Go.Proofs
def ga(n:Int):aj:=(place (n,4),1+place (i64.wrap (n.tdiv 4),20),0)
noncomputable def ajS:cX:=zC [gY] (dE []) 10
def acs:Nat→LD:=eO []
noncomputable def aje(f:Nat)(a:Int):Option (aj):=aG (ajS) acs (zK [.cell 2 48] [.g aE]) f [.code (aB Tryz.f69)] (aQ [.c (zI)] a)
theorem abU(f:Nat)(n:Int):aje (f+1) n =
  some (place (n,4),i64.wrap (1+place (i64.wrap (n.tdiv 4),20)),0):=by kernel_rfl
noncomputable def acP:Int→aj
 | n=>(place (n,4),i64.wrap (1+place (i64.wrap (n.tdiv 4),20)),0)
noncomputable def aiU:Int→Bool
 | n=>true
theorem Yq:∀a:Int,de (fun f=>aje f a) (aiU a) (acP a)
 | n=>ai (fun f=>abU f _) ae
theorem apk:∀a:Int,(fun _=>true) a=true→aiU a=true:=fun a _=>rfl
theorem jD(n k:Int)(hk:0<k)(hk2:k≤1000000):0≤place (n,k)∧place (n,k)<k:=by
 exact⟨kY _ _,oz _ hk⟩
theorem apl:∀a:Int,(fun _=>true) a=true→acP a=ga a:=fun a _=>by
 have:=jD (i64.wrap (a.tdiv 4)) 20 (by omega) (by omega);simp only[acP,ga];rw[az (by omega) (by omega)]
noncomputable def R9:dn:=⟨69,[.c (zI)],[.g aE],fun _=>true,ga⟩
theorem LM:zO R9:=fl ajS acs [.cell 2 48] mixed (ah fk (aC)) Tryz.func69 (bp Yq apk apl)
noncomputable def ajX:cX:=zC [] (dE []) 12
def acy:Nat→LD:=eO []
noncomputable def ajr(f:Nat)(a:(List (Int))×Int):Option ((List (Int))):=aG (ajX) acy (zK [.tmp 4] [.v (.sl [zI])]) f [.code (aB Tryz.f33)] (aQ [.c (.sl [zI]),.c (zI)] a)
theorem acj(f:Nat)(l:List (Int))(n:Int):ajr (f+1) (l,n) =
  bif decide (n≥(↑l.length:Int))then some []else bif decide (0≤n)&&decide (n≤(↑l.length:Int))then some (List.drop n.toNat l)else none:=by kernel_rfl
noncomputable def ac0:((List (Int))×Int)→(List (Int))
 | (l,n)=>bif decide (n≥(↑l.length:Int))then[]else List.drop n.toNat l
noncomputable def abd:((List (Int))×Int)→Bool
 | (l,n)=>bif decide (n≥(↑l.length:Int))then true else decide (0≤n)&&decide (n≤(↑l.length:Int))
theorem aaH:∀a:(List (Int))×Int,de (fun f=>ajr f a) (abd a) (ac0 a)
 | (l,n)=>ai (fun f=>acj f _ _) (ao ae (cS ae))
theorem aq7:∀a:List Int×Int,decide (0≤a.2)=true→abd a=true:=fun a h=>by
 have h:0≤a.2:=azZ h;simp only[abd];by_cases h1:a.2≥(a.1.length:Nat)
 ·rw[azC h1];rfl
 ·rw[azK h1,azC h,azC (show a.2≤(a.1.length:Nat)by omega)];rfl
theorem aq8:∀a:List Int×Int,decide (0≤a.2)=true→ac0 a=a.1.drop a.2.toNat:=fun a h=>by
 have h:0≤a.2:=azZ h;simp only[ac0];by_cases h1:a.2≥(a.1.length:Nat)
 ·rw[azC h1,azH,aBK (by omega)]
 ·rw[azK h1,azI]
noncomputable def adQ:dn:=⟨33,[.c (.sl [zI]),.c (zI)],[.v (.sl [zI])],fun a:(List (Int))×Int=>decide (0≤a.2),fun a:(List (Int))×Int=>a.1.drop a.2.toNat⟩
theorem LP:zO adQ:=fl ajX acy [.tmp 4] mixed (aC) Tryz.func33 (bp aaH aq7 aq8)
noncomputable def O2:cX:=zC [gY] (dE []) 20
def Aj:Nat→LD:=eO [(0,⟨[.c 0 (zI),.list 3 999 3 1 [zI],.c 4 (zI)],[],0⟩)]
noncomputable def ab7(f:Nat)(a:Int):Option ((List (Int))):=aG (O2) Aj (zK [.tmp 2] [.v (.sl [zI])]) f [.code (aB Tryz.f39)] (aQ [.c (zI)] a)
noncomputable def qI(f:Nat)(x:Int×(List (Int))×Int):Option ((List (Int))):=aG (O2) Aj (zK [.tmp 2] [.v (.sl [zI])]) f (aV Tryz.f39 0) ((Aj 0).mk' x)
theorem Vh(f:Nat)(n:Int):ab7 (f+1) n =
  qI f (n,[],0):=by kernel_rfl
theorem yA(f:Nat)(n:Int)(out:List (Int))(i:Int):qI (f+1) (n,out,i) =
  bif decide (i<4)then bif decide (0≤u64.wrap i)then bif place (n.fdiv (2 ^ min (u64.wrap i).toNat i64.bits),2) == 1 then bif decide ((out.length+[i].length)*8≤140737488355328)then qI f (n,out++[i],i64.wrap (i+1))else none else qI f (n,out,i64.wrap (i+1))else none else some out:=by kernel_rfl
noncomputable def gz:Nat→(Int×(List (Int))×Nat)→(List (Int))
 | 0,(n,out,i)=>out
 | rest+1,(n,out,i)=>bif place (n.fdiv (2 ^ min (u64.wrap (↑i:Int)).toNat i64.bits),2) == 1 then gz rest (n,out++[(↑i:Int)],i+1)else gz rest (n,out,i+1)
noncomputable def lR:Nat→(Int×(List (Int))×Nat)→Bool
 | 0,(n,out,i)=>true
 | rest+1,(n,out,i)=>decide (0≤u64.wrap (↑i:Int))&&bif place (n.fdiv (2 ^ min (u64.wrap (↑i:Int)).toNat i64.bits),2) == 1 then decide ((out.length+1)*8≤140737488355328)&&lR rest (n,out++[(↑i:Int)],i+1)else lR rest (n,out,i+1)
theorem C4:∀(rest:Nat) (n:Int) (out:List (Int)) (i:Nat) (hd:((4:Int)-((i:Nat):Int)).toNat=rest) (hl:(4:Int)≤1099511627776),de (fun f=>qI f (n,out,((i:Nat):Int))) (lR rest (n,out,i)) (gz rest (n,out,i))
 | 0,n,out,i,hd,hl=>ai (fun f=>(yA f _ _ _).trans (by simp only[aah hd,fW,azQ,azP,azH,azI,azX]<;>rfl)) ae
 | rest+1,n,out,i,hd,hl=>ai (fun f=>(yA f _ _ _).trans (by simp only[aag hd,KQ hd hl,fW,azQ,azP,azH,azI,azX]<;>rfl)) (aI (ao (aI (C4 rest _ _ _ (u7 hd) (by first | exact hl | simpa using hl))) (C4 rest _ _ _ (u7 hd) (by first | exact hl | simpa using hl))))
noncomputable def bt:Int→(List (Int))
 | n=>gz (4-(↑0:Int)).toNat (n,[],0)
noncomputable def aa6:Int→Bool
 | n=>lR (4-(↑0:Int)).toNat (n,[],0)
theorem Ue:∀a:Int,de (fun f=>ab7 f a) (aa6 a) (bt a)
 | n=>ai (fun f=>Vh f _) (C4 _ _ _ _ rfl (by decide))
theorem amQ:∀a:Int,(fun _=>true) a=true→aa6 a=true:=fun a _=>by
 have key:∀(r:Nat) (out:List Int) (i:Nat),out.length+r≤100→i+r≤100→lR r (a,out,i)=true:=by
  intro r;induction r with
  | zero=>intro out i h h2;rfl
  | succ r ih=>
   intro out i h h2;simp only[lR];rw[ih _ _ (by simp;omega) (by omega),ih _ _ (by omega) (by omega)];have:u64.wrap ((i:Nat):Int)=i:=by rw[IntKind.wrap_u64];omega
   rw[this,azC (show(0:Int)≤(i:Nat)by omega),azC (show(out.length+1)*8≤140737488355328 by omega)];generalize (place _ == 1)=b;cases b<;>rfl
 exact key 4 [] 0 (by simp) (by omega)
theorem amR:∀a:Int,(fun _=>true) a=true→bt a=bt a:=fun _ _=>rfl
noncomputable def adJ:dn:=⟨39,[.c (zI)],[.v (.sl [zI])],fun _=>true,bt⟩
theorem VN:zO adJ:=fl O2 Aj [.tmp 2] mixed (ah fk (aC)) Tryz.func39 (bp Ue amQ amR)
def ub:List eB:=[(0,15,false),(32768,15,false)]
noncomputable def ad2:cX:=zC [] (dE []) 4
def Ri:Nat→LD:=eO []
noncomputable def abA(f:Nat)(a:Unit):Option ((List (eB))):=aG (ad2) Ri (zK [.tmp 0] [.v (.sl tP)]) f [.code (aB Tryz.f13)] (aQ [] a)
theorem UW(f:Nat):abA (f+1) () =
  some [(0,15,false),(32768,15,false)]:=by kernel_rfl
noncomputable def acG:Unit→(List (eB))
 | ()=>[(0,15,false),(32768,15,false)]
noncomputable def aaS:Unit→Bool
 | ()=>true
theorem Ta:∀a:Unit,de (fun f=>abA f a) (aaS a) (acG a)
 | ()=>ai (fun f=>UW f) ae
theorem akK:∀a:Unit,(fun _=>true) a=true→aaS a=true:=fun _ _=>rfl
theorem akL:∀a:Unit,(fun _=>true) a=true→acG a=ub:=fun _ _=>rfl
noncomputable def Hn:dn:=⟨13,[],[.v (.sl tP)],fun _=>true,fun _=>ub⟩
theorem E1:zO Hn:=fl ad2 Ri [.tmp 0] mixed (aC) Tryz.func13 (bp Ta akK akL)
noncomputable def ajR:cX:=zC [ahB,R9,gY,ni] (dE [(1,([(0,[]),(3,[]),(6,[]),(7,[]),(12,[]),(15,[]),(1,[]),(2,[]),(4,[]),(5,[]),(8,[]),(9,[]),(10,[]),(11,[]),(13,[]),(14,[]),(16,[])],[(5,20)]))]) 69
def acr:Nat→LD:=eO []
noncomputable def ajd(f:Nat)(a:(List (Int))×cu):Option (bR):=aG (ajR) acr (zK [.cell 4 56] [.g bV]) f [.code (aB Tryz.f70)] (aQ [.rd [zI],.g gA] a)
theorem abT(f:Nat)(l:List (Int))(n:cu):ajd (f+1) (l,n) =
  bif decide (0≤place (ba (l,2),2))&&decide (place (ba (l,2),2)<(↑[32,39].length:Int))then bif af n.2.2.2.1 then bif i64.wrap (1+place (ba (l,3),6)) == 1 then some ((ga (ba (l,0))).1,(ga (ba (l,0))).2.1,(ga (ba (l,0))).2.2,i64.wrap (1+place (ba (l,3),6)),place (ba (l,4),8),place (ba (l,5),8),place (ba (l,6),4),place (ba (l,7),8),i64.wrap (1+place (ba (l,8),6)),i64.wrap (12+place (ba (l,9),3)),place (ba (l,10),2),i64.wrap (place (ba (l,11),8)*2 ^ min (Int.toNat 12) i64.bits),i64.wrap (1+place (ba (l,12),3)),ba (l,13),ba (l,14),place (ba (l,1),3),[32,39].getD (place (ba (l,2),2)).toNat 0,0,0,0,[],0,0,0,0,0,0,false)else some ((ga (ba (l,0))).1,(ga (ba (l,0))).2.1,(ga (ba (l,0))).2.2,i64.wrap (1+place (ba (l,3),6)),place (ba (l,4),8),place (ba (l,5),8),place (ba (l,6),4),place (ba (l,7),8),i64.wrap (1+place (ba (l,8),6)),i64.wrap (12+place (ba (l,9),3)),place (ba (l,10),2),i64.wrap (place (ba (l,11),8)*2 ^ min (Int.toNat 12) i64.bits),i64.wrap (1+place (ba (l,12),3)),ba (l,13),ba (l,14),place (ba (l,1),3),[32,39].getD (place (ba (l,2),2)).toNat 0,n)else none else none:=by kernel_rfl
noncomputable def RP:((List (Int))×cu)→bR
 | (l,n)=>bif i64.wrap (1+place (ba (l,3),6)) == 1 then((ga (ba (l,0))).1,(ga (ba (l,0))).2.1,(ga (ba (l,0))).2.2,i64.wrap (1+place (ba (l,3),6)),place (ba (l,4),8),place (ba (l,5),8),place (ba (l,6),4),place (ba (l,7),8),i64.wrap (1+place (ba (l,8),6)),i64.wrap (12+place (ba (l,9),3)),place (ba (l,10),2),i64.wrap (place (ba (l,11),8)*2 ^ min (Int.toNat 12) i64.bits),i64.wrap (1+place (ba (l,12),3)),ba (l,13),ba (l,14),place (ba (l,1),3),[32,39].getD (place (ba (l,2),2)).toNat 0,0,0,0,[],0,0,0,0,0,0,false)else((ga (ba (l,0))).1,(ga (ba (l,0))).2.1,(ga (ba (l,0))).2.2,i64.wrap (1+place (ba (l,3),6)),place (ba (l,4),8),place (ba (l,5),8),place (ba (l,6),4),place (ba (l,7),8),i64.wrap (1+place (ba (l,8),6)),i64.wrap (12+place (ba (l,9),3)),place (ba (l,10),2),i64.wrap (place (ba (l,11),8)*2 ^ min (Int.toNat 12) i64.bits),i64.wrap (1+place (ba (l,12),3)),ba (l,13),ba (l,14),place (ba (l,1),3),[32,39].getD (place (ba (l,2),2)).toNat 0,n)
noncomputable def QR:((List (Int))×cu)→Bool
 | (l,n)=>decide (0≤place (ba (l,2),2))&&decide (place (ba (l,2),2)<(↑[32,39].length:Int))&&af n.2.2.2.1
theorem Yo:∀a:(List (Int))×cu,de (fun f=>ajd f a) (QR a) (RP a)
 | (l,n)=>ai (fun f=>abT f _ _) (aI (cS (aT ae ae)))
def wN(a:List Int×cu):bR:=apm (ga (ba (a.1,0))) (1+place (ba (a.1,3),6),place (ba (a.1,4),8),place (ba (a.1,5),8),place (ba (a.1,6),4),place (ba (a.1,7),8),1+place (ba (a.1,8),6),12+place (ba (a.1,9),3),place (ba (a.1,10),2),place (ba (a.1,11),8)*4096,1+place (ba (a.1,12),3),ba (a.1,13),ba (a.1,14)) (place (ba (a.1,1),3)) ([32,39].getD (place (ba (a.1,2),2)).toNat 0) (bif decide (place (ba (a.1,3),6)=0)then sz else a.2)
theorem JX:∀a:List Int×cu,af a.2.2.2.2.1=true→QR a=true∧RP a=wN a:=by
 rintro⟨l,n⟩ h;have p3:=jD (ba (l,3)) 6 (by omega) (by omega);have p8:=jD (ba (l,8)) 6 (by omega) (by omega);have p9:=jD (ba (l,9)) 3 (by omega) (by omega);have p11:=jD (ba (l,11)) 8 (by omega) (by omega);have H8:=jD (ba (l,12)) 3 (by omega) (by omega);have p2:=jD (ba (l,2)) 2 (by omega) (by omega);have e12:(2:Int) ^ min (Int.toNat 12) i64.bits=4096:=by decide
 constructor
 ·simp only[QR,h,aAt,azF,azM]
  exact⟨p2.1,p2.2⟩
 ·simp only[RP,wN,e12]
  rw[az (n:=1+place (ba (l,3),6)) (by omega) (by omega),az (n:=1+place (ba (l,8),6)) (by omega) (by omega),az (n:=12+place (ba (l,9),3)) (by omega) (by omega),az (n:=place (ba (l,11),8)*4096) (by omega) (by omega),az (n:=1+place (ba (l,12),3)) (by omega) (by omega)];by_cases h0:place (ba (l,3),6)=0
  ·rw[azC h0,show(1+place (ba (l,3),6) == 1)=true from by rw[xm];exact azC (by omega)]
   rfl
  ·rw[azK h0,show(1+place (ba (l,3),6) == 1)=false from by rw[xm];exact azK (by omega)]
   rfl
theorem api:∀a:List Int×cu,af a.2.2.2.2.1=true→QR a=true:=fun a h=>(JX a h).1
theorem apj:∀a:List Int×cu,af a.2.2.2.2.1=true→RP a=wN a:=fun a h=>(JX a h).2
noncomputable def adx:dn:=⟨70,[.rd [zI],.g gA],[.g bV],fun a:(List (Int))×cu=>af a.2.2.2.2.1,wN⟩
theorem adw:zO adx:=fl ajR acr [.cell 4 56] mixed (ah Hs (ah LM (ah fk (ah gR (aC))))) Tryz.func70 (bp Yo api apj)
noncomputable def aej:cX:=⟨Tryz.prog,[ajJ,adk],dE [],50,[],[(21,bg),(33,bV),(45,gJ)],[],[]⟩
def G5:Nat→LD:=eO [(0,⟨[.rd 0 eG,.list 3 999 40 20 eG,.c 4 (zI)],[],0⟩)]
noncomputable def ajm(f:Nat)(a:(List (cC))):Option ((List (cC))):=aG (aej) G5 (zK [.tmp 2] [.v (.sl eG)]) f [.code (aB Tryz.f18)] (aQ [.rd eG] a)
noncomputable def Ay(f:Nat)(x:(List (cC))×(List (cC))×Int):Option ((List (cC))):=aG (aej) G5 (zK [.tmp 2] [.v (.sl eG)]) f (aV Tryz.f18 0) ((G5 0).mk' x)
theorem ab6(f:Nat)(l:List (cC)):ajm (f+1) l =
  bif decide (l.length*416≤140737488355328)then Ay f (l,l,0)else none:=by kernel_rfl
theorem CS(f:Nat)(l:List (cC))(out:List (cC))(i:Int):Ay (f+1) (l,out,i) =
  bif decide (i<(↑out.length:Int))then bif decide (0≤i)&&decide (i<(↑l.length:Int))then bif ct (l.getD i.toNat zq5).2.2.2.2.1 then bif decide (0≤i)&&decide (i<(↑out.length:Int))then bif decide (0≤i)&&decide (i<(↑l.length:Int))then bif ke (l.getD i.toNat zq5).2.2.2.2.2.1 then bif decide (0≤i)&&decide (i<(↑(out.set i.toNat (bG (bG (bG (bG (H7 (l.getD i.toNat zq5).2.2.2.2.1)))) (out.getD i.toNat zq5))).length:Int))then bif decide (0≤i)&&decide (i<(↑l.length:Int))then bif decide (List.length (l.getD i.toNat zq5).2.2.2.2.2.2.1*32≤140737488355328)then bif decide (0≤i)&&decide (i<(↑((out.set i.toNat (bG (bG (bG (bG (H7 (l.getD i.toNat zq5).2.2.2.2.1)))) (out.getD i.toNat zq5))).set i.toNat (bG (bG (bG (bG (bG (H7 (l.getD i.toNat zq5).2.2.2.2.2.1))))) ((out.set i.toNat (bG (bG (bG (bG (H7 (l.getD i.toNat zq5).2.2.2.2.1)))) (out.getD i.toNat zq5))).getD i.toNat zq5))).length:Int))then Ay f (l,((out.set i.toNat (bG (bG (bG (bG (H7 (l.getD i.toNat zq5).2.2.2.2.1)))) (out.getD i.toNat zq5))).set i.toNat (bG (bG (bG (bG (bG (H7 (l.getD i.toNat zq5).2.2.2.2.2.1))))) ((out.set i.toNat (bG (bG (bG (bG (H7 (l.getD i.toNat zq5).2.2.2.2.1)))) (out.getD i.toNat zq5))).getD i.toNat zq5))).set i.toNat (bG (bG (bG (bG (bG (bG (H7 (l.getD i.toNat zq5).2.2.2.2.2.2.1)))))) (((out.set i.toNat (bG (bG (bG (bG (H7 (l.getD i.toNat zq5).2.2.2.2.1)))) (out.getD i.toNat zq5))).set i.toNat (bG (bG (bG (bG (bG (H7 (l.getD i.toNat zq5).2.2.2.2.2.1))))) ((out.set i.toNat (bG (bG (bG (bG (H7 (l.getD i.toNat zq5).2.2.2.2.1)))) (out.getD i.toNat zq5))).getD i.toNat zq5))).getD i.toNat zq5)),i64.wrap (i+1))else none else none else none else none else none else none else none else none else none else some out:=by kernel_rfl
def NM(l:List cC):Bool:=decide (l.length≤100)&&l.all fun r=>ct r.2.2.2.2.1&&(ke r.2.2.2.2.2.1&&decide ((rR r).length≤1000))
theorem aiL(l:List cC)(hl:l.length≤100)(hp:∀r∈l,ct r.2.2.2.2.1=true∧ke r.2.2.2.2.2.1=true∧(rR r).length≤1000):∀(r:List cC) (k:Nat),l.drop k=r→∃f,Ay f (l,l,((k:Nat):Int))=some l
 | [],k,h=>⟨1,(CS 0 _ _ _).trans (by rw[fA (bT h)];rfl)⟩
 | u::r,k,h=>by
  have hk:=ak h;obtain⟨f,hf⟩:=aiL l hl hp r (k+1) (aH h);obtain⟨h1,h2,h3⟩:=hp u (azO (rn h));have h3:decide (List.length u.2.2.2.2.2.2.1*32≤140737488355328)=true:=azC (by have:List.length u.2.2.2.2.2.2.1≤1000:=h3;omega);have e1:bG (bG (bG (bG (H7 u.2.2.2.2.1)))) u=u:=rfl;have e2:bG (bG (bG (bG (bG (H7 u.2.2.2.2.2.1))))) u=u:=rfl;have e3:bG (bG (bG (bG (bG (bG (H7 u.2.2.2.2.2.2.1)))))) u=u:=rfl;refine⟨f+1,(CS f _ _ _).trans ?_⟩;simp only[cK hk,fW,bC h,h1,h2,h3,e1,e2,e3,tW h,azQ,azH];rw[az (by omega) (by omega)];exact hf
theorem ag5:∀l:List cC,NM l=true→∃f,ajm f l=some l:=fun l h=>by
 simp only[NM,azF,azM]at h;obtain⟨f,hf⟩:=aiL l h.1 (fun r hr=>by have:=azU.1 h.2 r hr;simp only[azF,azM]at this;exact this) l 0 rfl;refine⟨f+1,(ab6 f _).trans ?_⟩;rw[azC (show l.length*416≤140737488355328 by omega)];exact hf
noncomputable def adI:dn:=⟨18,[.rd eG],[.v (.sl eG)],NM,fun a=>(fun l=>l:(List (cC))→(List (cC))) a⟩
theorem adH:zO adI:=fl aej G5 [.tmp 2] mixed (ah adG (ah VA (aC))) Tryz.func18 ag5
def dp(a:Int×Int×List cC):ay:=bif decide (bu (fun q=>decide (q.1=a.1)) a.2.2 0<0)then(List.replicate (max a.2.1 0).toNat iR,[],[],[],[],[])
 else((a.2.2.getD (bu (fun q=>decide (q.1=a.1)) a.2.2 0).toNat zq5).2.2.2.2.1,(a.2.2.getD (bu (fun q=>decide (q.1=a.1)) a.2.2 0).toNat zq5).2.2.2.2.2.1,[],[],[],[])
def SM(a:Int×Int×List cC):Bool:=decide (a.2.1≤1000000)&&(decide (a.2.2.length≤100)&&a.2.2.all AZ)
open Go.Proofs Go.MapKept
def Zc.prun{α:Type}(P:Program):Sem α→Option α
 | .pure a=>some a
 | .program k=>Zc.prun P (k P)
 | _=>none
theorem Zc.ui{α:Type}{P:Program}{m:Sem α}{a:α}(h:Zc.prun P m=some a)(w:World):m.run P w=.ok a w:=by
 induction m with
 | pure b=>simp only[Zc.prun,azN]at h;subst h;rfl
 | program k ih=>exact ih P h
 | _=>simp[Zc.prun]at h
def Yh.v(x:aj):Value:=.agg #[.int .i64 x.1,.int .i64 x.2.1,.int .i64 x.2.2]
theorem Yh.bit{a b c d e f:Int}:((a == d)&&((b == e)&&((c == f)&&true)))=decide ((a,b,c)=(d,e,f)):=by
 by_cases h1:a=d
 ·by_cases h2:b=e
  ·by_cases h3:c=f
   ·simp[h1,h2,h3]
   ·simp[h1,h2,h3]
  ·simp[h1,h2]
 ·simp[h1]
theorem Yh.ao4(w:World)(x:aj):nT w (fun _=>False) [.int .i64 x.1,.int .i64 x.2.1,.int .i64 x.2.2] [.int .i64 x.1,.int .i64 x.2.1,.int .i64 x.2.2]:=by
 refine⟨rfl,fun j y hy=>?_⟩
 match j,hy with
 | 0,hy=>simp at hy;subst hy;exact⟨_,rfl,.int _ _⟩
 | 1,hy=>simp at hy;subst hy;exact⟨_,rfl,.int _ _⟩
 | 2,hy=>simp at hy;subst hy;exact⟨_,rfl,.int _ _⟩
 | j+3,hy=>simp at hy
theorem Yh.row(x:aj):valOf Tryz.prog 48 [.int .i64 x.1,.int .i64 x.2.1,.int .i64 x.2.2]=Yh.v x:=by kernel_rfl
theorem Yh.eq(x y:aj)(w:World):(Op.equal 48 (Yh.v x) (Yh.v y)).run Tryz.prog w=.ok (decide (x=y)) w:=by
 obtain⟨a,b,c⟩:=x;obtain⟨d,e,f⟩:=y;have h:=sM (P:=Tryz.prog) (fun _=>False) w 2 48 [true,true,true] (by kernel_rfl) Op.maxDepth (by decide) _ _ _ _ (decide ((a,b,c)=(d,e,f))) (Yh.ao4 w (a,b,c)) (Yh.ao4 w (d,e,f)) rfl
  (by show some _=some _;exact azT some Yh.bit) w
 rw[Yh.row (a,b,c),Yh.row (d,e,f)]at h;unfold Op.equal;exact h
theorem Yh.ck0(x:aj)(e:Bool):Zc.prun Tryz.prog (Instr.checkKey e 10000 48 (Yh.v x))=some ():=by kernel_rfl
theorem Yh.ck(x:aj)(e:Bool)(w:World):(Instr.checkKey e 10000 48 (Yh.v x)).run Tryz.prog w=.ok () w:=Zc.ui (Yh.ck0 x e) w
def Yh.E(ids:List aj)(l:List MapEntry):Prop:=l.map (fun e=>(e.key,e.val))=ids.map fun x=>(Yh.v x,.bool true)
theorem Yh.ask(x:aj)(w:World):∀(ids:List aj) (l:List MapEntry) (i:Nat),Yh.E ids l→
  ∃r,(Instr.findAsking 48 (Yh.v x) l i).run Tryz.prog w=.ok r w∧((x∉ids∧r=none)∨(x∈ids∧∃j e,r=some (i+j,.bool true)∧l[j]? = some e∧e.key=Yh.v x∧e.val=.bool true))
 | [],[],i,_=>⟨none,rfl,.inl ⟨by simp,rfl⟩⟩
 | [],_::_,i,h=>by simp[Yh.E]at h
 | _::_,[],i,h=>by simp[Yh.E]at h
 | y::ids,e::l,i,h=>by
  simp only[Yh.E,aAy,aBw,azY]at h;obtain⟨⟨h1,h2⟩,h3⟩:=h;by_cases uH:x=y
  ·subst uH
   refine⟨some (i,.bool true),?_,.inr ⟨by simp,0,e,rfl,rfl,h1,h2⟩⟩;simp only[Instr.findAsking,Sem.run_bind,h1,Yh.eq,Result.andThen_ok,aBP,aAo,h2];rfl
  ·obtain⟨r,g1,g2⟩:=Yh.ask x w ids l (i+1) h3
   refine⟨r,?_,?_⟩
   ·simp only[Instr.findAsking,Sem.run_bind,h1,Yh.eq,Result.andThen_ok,uH,decide_false,aAE,aAd]
    exact g1
   ·rcases g2 with⟨g2,g3⟩ | ⟨g2,j,e',g3,g4,g5⟩
    ·exact .inl ⟨by simp[uH,g2],g3⟩
    ·exact .inr ⟨by simp[g2],j+1,e',by rw[g3];congr 2;omega,g4,g5⟩
theorem Yh.find(x:aj)(w:World)(ids:List aj)(l:List MapEntry)(h:Yh.E ids l):
  ∃r,(Instr.findKey 48 (Yh.v x) l).run Tryz.prog w=.ok r w∧((x∉ids∧r=none)∨(x∈ids∧∃j e,r=some (j,.bool true)∧l[j]? = some e∧e.key=Yh.v x∧e.val=.bool true)):=by
 have hu:=Tryz.underlying48;cases ids with
 | nil=>
  cases l with
  | cons=>simp[Yh.E]at h
  | nil=>
   refine⟨none,?_,.inl ⟨by simp,rfl⟩⟩;simp only[Instr.findKey,Sem.run_bind,run_underlying hu,Result.andThen_ok,Instr.findNow];rfl
 | cons y ids=>
  cases l with
  | nil=>simp[Yh.E]at h
  | cons e l=>
   obtain⟨r,g1,g2⟩:=Yh.ask x w (y::ids) (e::l) 0 h;refine⟨r,?_,?_⟩
   ·have h1:e.key=Yh.v y:=by
     simp only[Yh.E,aAy,aBw,azY]at h;exact h.1.1
    simp only[Instr.findKey,Sem.run_bind,run_underlying hu,Result.andThen_ok,Instr.findNow,h1,Yh.v,Instr.sameNow];exact g1
   ·rcases g2 with g2 | ⟨g2,j,e',g3,g4⟩
    ·exact .inl g2
    ·exact .inr ⟨g2,j,e',by rw[g3,az8],g4⟩
def Yh.M(w:World)(r:Nat)(ids:List aj):Prop:=∃es c,w.heap[r]? = some (.map es c)∧Yh.E ids es.toList
def Yh.add(ids:List aj)(x:aj):List aj:=if x∈ids then ids else ids++[x]
theorem Yh.af0{ids:List aj}{x y:aj}:y∈Yh.add ids x↔y=x∨y∈ids:=by
 unfold Yh.add
 split
 ·rename_i h
  constructor
  ·exact .inr
  ·rintro(rfl | h1)
   ·exact h
   ·exact h1
 ·simp[or_comm]
theorem Yh.look{w:World}{r:Nat}{ids:List aj}(h:Yh.M w r ids)(x:aj):(Instr.lookup 111 (.map (some r)) (Yh.v x) false).run Tryz.prog w=.ok (.bool (decide (x∈ids))) w:=by
 obtain⟨es,c,h1,h2⟩:=h;have hu:=Tryz.underlying111;obtain⟨f,g1,g2⟩:=Yh.find x w ids es.toList h2;rcases g2 with⟨g2,rfl⟩ | ⟨g2,j,e,rfl,g4⟩
 ·have hz:(zeroValue 4).run Tryz.prog w=.ok (.bool false) w:=Zc.ui (by kernel_rfl) w
  simp only[Instr.lookup,Sem.run_bind,run_underlying hu,Result.andThen_ok,Sem.run_pure,MapKept.run_getObj_map h1,Yh.ck,g1,hz];simp[g2]
 ·simp only[Instr.lookup,Sem.run_bind,run_underlying hu,Result.andThen_ok,Sem.run_pure,MapKept.run_getObj_map h1,Yh.ck,g1]
  simp[g2]
theorem Yh.sb(x:aj):Instr.sameBits 10000 (Yh.v x) (Yh.v x)=true:=by
 simp[Yh.v,Instr.sameBits]
theorem Yh.H3{w:World}{r:Nat}{ids:List aj}(h:Yh.M w r ids)(x:aj):∃w',(Instr.mapUpdate 111 (.map (some r)) (Yh.v x) (.bool true)).run Tryz.prog w=.ok () w'∧Yh.M w' r (Yh.add ids x)∧∃o,w'={w with heap:=w.heap.setIfInBounds r o }:=by
 obtain⟨es,c,h1,h2⟩:=h;have hu:=Tryz.underlying111;obtain⟨f,g1,g2⟩:=Yh.find x w ids es.toList h2;rcases g2 with⟨g2,rfl⟩ | ⟨g2,j,e,rfl,g4,g5,g6⟩
 ·refine⟨{w with heap:=w.heap.setIfInBounds r (.map (es.push ⟨Yh.v x,.bool true,c⟩) (c+1)) },?_,⟨_,_,(heap_set h1).1,?_⟩,_,rfl⟩
  ·simp only[Instr.mapUpdate,Sem.run_bind,run_underlying hu,Result.andThen_ok,MapKept.run_getObj_map h1,Yh.ck,g1,MapKept.run_setObj_map _ h1]
  ·unfold Yh.add
   rw[azD g2];simp only[Yh.E,Array.toList_push,List.map_append,aAy,aBq];rw[h2]
 ·have hj:es[j]? = some e:=by simpa using g4
  refine⟨{w with heap:=w.heap.setIfInBounds r (.map (es.modify j fun e=>{e with key:=Yh.v x,val:=.bool true }) c) },?_,⟨_,_,(heap_set h1).1,?_⟩,_,rfl⟩
  ·simp only[Instr.mapUpdate,Sem.run_bind,run_underlying hu,Result.andThen_ok,MapKept.run_getObj_map h1,Yh.ck,g1,hj,az7,aAK,g5,Instr.keyThatStays,Yh.sb,aAo,Sem.run_pure,MapKept.run_setObj_map _ h1]
  ·unfold Yh.add
   rw[azE g2];unfold Yh.E at h2 ⊢;rw[← h2];apply List.ext_getElem?;intro n;simp only[aAv,aAG,aCj];by_cases hn:j=n
   ·subst hn
    rw[azE rfl,hj];simp[g5,g6]
   ·rw[azD hn]
theorem Yh.mk(w:World):(Instr.makeMap 111 none).run Tryz.prog w=.ok (.map (some w.heap.size)) (w.alloc (.map #[] 0))∧Yh.M (w.alloc (.map #[] 0)) w.heap.size []:=
 ⟨by simp[Instr.makeMap,Result.andThen],_,_,(heap_alloc w _).1,rfl⟩
theorem Yh.M.frame{w w':World}{r:Nat}{ids:List aj}(h:Yh.M w r ids)(he:w'.heap[r]? = w.heap[r]?):Yh.M w' r ids:=by
 obtain⟨es,c,h1,h2⟩:=h;exact⟨es,c,by rw[he];exact h1,h2⟩
