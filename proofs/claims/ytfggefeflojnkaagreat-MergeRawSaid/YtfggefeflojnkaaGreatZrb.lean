/- By an AI agent. -/
import Derived.Test.YtfggefeflojnkaaGreatZlaw
import Derived.Test.YtfggefeflojnkaaGreatRows
set_option linter.unusedSimpArgs false
set_option linter.unusedVariables false
namespace Go.AL
open Go.Proofs
noncomputable def L9:cR:=⟨Tryz.prog,[afC,ae2,Co,PE],dn [(12,([(0,[]),(1,[]),(2,[]),(3,[]),(4,[]),(5,[]),(6,[]),(7,[]),(8,[]),(9,[]),(10,[]),(11,[]),(12,[])],[(72,84)])),(17,([(0,[]),(1,[]),(2,[]),(3,[]),(4,[]),(5,[]),(6,[]),(7,[]),(8,[]),(9,[])],[(93,102)]))],111,[],[],[],[]⟩
theorem aps:bp Tryz.prog [afC,ae2,Co,PE] [] []:=ak afB (ak ae1 (ak EE (ak WZ (aD))))
def qH:Nat→LD:=ej [(0,⟨[.c 0 (.sl dB),.c 1 (.sl cV),.box 5 5 30 3 eN,.c 7 (.int .i64)],[],0⟩),(2,⟨[.c 0 (.sl dB),.c 1 (.sl cV),.box 5 5 30 3 eN,.c 7 (.int .i64),.box 8 8 38 6 ba,.c 9 (.int .i64)],[],0⟩),(4,⟨[.c 0 (.sl dB),.c 1 (.sl cV),.box 5 5 30 3 eN,.c 10 (.int .i64)],[],0⟩)]
noncomputable def adS(f:Nat)(a:(List (bA))×(List (bz))×bU):Option (Bool):=(aG (L9) qH (aQ Tryz.prog [.tmp 6] [.v (.bool)]) f [.code (aC Tryz.f4)] (aV [.c (.sl dB),.c (.sl cV),.g eN] a):Option (aA [.v (.bool)]))
noncomputable def sq(f:Nat)(x:(List (bA))×(List (bz))×bU×Int):Option (Bool):=(aG (L9) qH (aQ Tryz.prog [.tmp 6] [.v (.bool)]) f (aK Tryz.f4 0) ((qH 0).mk' x):Option (aA [.v (.bool)]))
noncomputable def so(f:Nat)(x:(List (bA))×(List (bz))×bU×Int×ao×Int):Option (Bool):=(aG (L9) qH (aQ Tryz.prog [.tmp 6] [.v (.bool)]) f (aK Tryz.f4 2) ((qH 2).mk' x):Option (aA [.v (.bool)]))
noncomputable def sm(f:Nat)(x:(List (bA))×(List (bz))×bU×Int):Option (Bool):=(aG (L9) qH (aQ Tryz.prog [.tmp 6] [.v (.bool)]) f (aK Tryz.f4 4) ((qH 4).mk' x):Option (aA [.v (.bool)]))
theorem adR(f:Nat)(rs:List (bA))(l:List (bz))(v:bU):adS (f+1) (rs,l,v) =
  bif decide ((↑rs.length:Int)>16)then some true else bif decide ((↑l.length:Int)>5)then some true else bif decide ((↑(List.length v.2.1):Int)>8)then some true else bif decide ((↑(List.length v.2.2):Int)>16)then some true else sq f (rs,l,v,0):=by kernel_rfl
theorem B5(f:Nat)(rs:List (bA))(l:List (bz))(v:bU)(i:Int):sq (f+1) (rs,l,v,i) =
  bif decide (i<(↑l.length:Int))then bif decide (0≤i)&&decide (i<(↑l.length:Int))then bif decide ((↑(List.length (l.getD i.toNat zq5).2.2.2.2.1):Int)>12)then some true else bif decide ((↑(List.length (l.getD i.toNat zq5).2.2.2.2.2.1):Int)>8)then some true else bif decide ((↑(List.length (l.getD i.toNat zq5).2.2.2.2.2.2.1):Int)>8)then some true else bif EP ((l.getD i.toNat zq5).2.2.2.2.1,(l.getD i.toNat zq5).2.2.2.2.2.1,(l.getD i.toNat zq5).2.2.2.2.2.2.1,(l.getD i.toNat zq5).2.2.2.2.2.2.2.1,(l.getD i.toNat zq5).2.2.2.2.2.2.2.2.1,(l.getD i.toNat zq5).2.2.2.2.2.2.2.2.2.1)then bif !rA ((l.getD i.toNat zq5).2.2.2.2.1,(l.getD i.toNat zq5).2.2.2.2.2.1,(l.getD i.toNat zq5).2.2.2.2.2.2.1,(l.getD i.toNat zq5).2.2.2.2.2.2.2.1,(l.getD i.toNat zq5).2.2.2.2.2.2.2.2.1,(l.getD i.toNat zq5).2.2.2.2.2.2.2.2.2.1)then some true else so f (rs,l,v,i,((l.getD i.toNat zq5).2.2.2.2.1,(l.getD i.toNat zq5).2.2.2.2.2.1,(l.getD i.toNat zq5).2.2.2.2.2.2.1,(l.getD i.toNat zq5).2.2.2.2.2.2.2.1,(l.getD i.toNat zq5).2.2.2.2.2.2.2.2.1,(l.getD i.toNat zq5).2.2.2.2.2.2.2.2.2.1),0)else none else none else sm f (rs,l,v,0):=by kernel_rfl
theorem B4(f:Nat)(rs:List (bA))(l:List (bz))(v:bU)(i:Int)(s:ao)(k:Int):so (f+1) (rs,l,v,i,s,k) =
  bif decide (k<(↑(List.length s.2.1):Int))then bif decide (0≤k)&&decide (k<(↑(List.length s.2.1):Int))then bif decide (0≤i)&&decide (i<(↑l.length:Int))then bif(List.getD s.2.1 k.toNat zq3).1 != (l.getD i.toNat zq5).1 then some true else so f (rs,l,v,i,s,IntKind.i64.wrap (k+1))else none else none else sq f (rs,l,v,IntKind.i64.wrap (i+1)):=by kernel_rfl
theorem B3(f:Nat)(rs:List (bA))(l:List (bz))(v:bU)(i:Int):sm (f+1) (rs,l,v,i) =
  bif decide (i<(↑(List.length v.2.1):Int))then bif decide (0≤i)&&decide (i≤(↑(List.length v.2.1):Int))then bif decide (0≤i)&&decide (i<(↑(List.length v.2.1):Int))then bif af (List.take i.toNat v.2.1)then bif cT (List.getD v.2.1 i.toNat 0) (List.take i.toNat v.2.1)then some true else sm f (rs,l,v,IntKind.i64.wrap (i+1))else none else none else none else bif o3 (rs,3,l,v)then some true else none:=by kernel_rfl
noncomputable def wx(K_0:((List (bA))×(List (bz))×bU×Nat)→Bool):List (Int×Int×Int×Int×Int×Int×Int×Int×Int×Int×Int×Int×Int×Int×Int×Int×Int×Int×Int×Int×(List (Int×Int×Int))×Int×Int×Int×Int×Int×Int×Bool)→((List (bA))×(List (bz))×bU×Nat×ao×Nat)→Bool
 | [],(rs,l,v,i,s,k)=>K_0 (rs,l,v,i+1)
 | uu::rest,(rs,l,v,i,s,k)=>bif uu.1 != (l.getD (↑i:Int).toNat zq5).1 then true else wx K_0 rest (rs,l,v,i,s,k+1)
noncomputable def vG(aey:((List (bA))×(List (bz))×bU×Nat)→Bool):List (Int×Int×Int×Int×Int×Int×Int×Int×Int×Int×Int×Int×Int×Int×Int×Int×Int×Int×Int×Int×(List (Int×Int×Int))×Int×Int×Int×Int×Int×Int×Bool)→((List (bA))×(List (bz))×bU×Nat×ao×Nat)→Bool
 | [],(rs,l,v,i,s,k)=>aey (rs,l,v,i+1)
 | uu::rest,(rs,l,v,i,s,k)=>bif uu.1 != (l.getD (↑i:Int).toNat zq5).1 then true else vG aey rest (rs,l,v,i,s,k+1)
theorem Td{K_0:((List (bA))×(List (bz))×bU×Nat)→Bool}{aey:((List (bA))×(List (bz))×bU×Nat)→Bool}{Zj:List (bz)}(atw:∀(rs:List (bA)) (l:List (bz)) (v:bU) (i:Nat) (hd:l.drop i=Zj) (hl:l.length≤1099511627776),cj (fun f=>sq f (rs,l,v,((i:Nat):Int))) (aey (rs,l,v,i)) (K_0 (rs,l,v,i))):∀(rest:List (Int×Int×Int×Int×Int×Int×Int×Int×Int×Int×Int×Int×Int×Int×Int×Int×Int×Int×Int×Int×(List (Int×Int×Int))×Int×Int×Int×Int×Int×Int×Bool)) (rs:List (bA)) (l:List (bz)) (v:bU) (i:Nat) (s:ao) (k:Nat) (hd:s.snd.fst.drop k=rest) (hl:s.snd.fst.length≤1099511627776) (KE:l.drop (i+1)=Zj) (Kz:l.length≤1099511627776) (C3:i<l.length),cj (fun f=>so f (rs,l,v,((i:Nat):Int),s,((k:Nat):Int))) (vG aey rest (rs,l,v,i,s,k)) (wx K_0 rest (rs,l,v,i,s,k))
 | [],rs,l,v,i,s,k,hd,hl,KE,Kz,C3=>ah (fun f=>(B4 f _ _ _ _ _ _).trans (by simp only[bW (aY hd),cB,aCw,aCu,aCn,aCq,aCx,aM C3 Kz,bl C3,aR C3]<;>rfl)) (atw _ _ _ _ (by first | exact KE | exact au KE | exact au (au KE)) (by first | exact Kz | simpa using Kz))
 | uu::rest,rs,l,v,i,s,k,hd,hl,KE,Kz,C3=>ah (fun f=>(B4 f _ _ _ _ _ _).trans (by simp only[bl (ag hd),aI hd,aM (ag hd) hl,aR (ag hd),cB,aCw,aCu,aCn,aCq,aCx,aM C3 Kz,bl C3,aR C3]<;>rfl)) (aw ae (Td atw rest _ _ _ _ _ _ (by first | exact aq hd | exact drop_set hd | exact au (drop_set hd)) (by first | exact hl | simpa using hl) (by first | exact KE | exact au KE | exact au (au KE)) (by first | exact Kz | simpa using Kz) (by first | exact C3 | simpa using C3)))
noncomputable def wv:List (Int)→((List (bA))×(List (bz))×bU×Nat)→Bool
 | [],(rs,l,v,i)=>true
 | uu::rest,(rs,l,v,i)=>bif cT uu (List.take (↑i:Int).toNat v.2.1)then true else wv rest (rs,l,v,i+1)
noncomputable def vF:List (Int)→((List (bA))×(List (bz))×bU×Nat)→Bool
 | [],(rs,l,v,i)=>o3 (rs,3,l,v)
 | uu::rest,(rs,l,v,i)=>decide ((↑i:Int)≤(↑(List.length v.2.1):Int))&&(af (List.take (↑i:Int).toNat v.2.1)&&bif cT uu (List.take (↑i:Int).toNat v.2.1)then true else vF rest (rs,l,v,i+1))
theorem Tc:∀(rest:List (Int)) (rs:List (bA)) (l:List (bz)) (v:bU) (i:Nat) (hd:v.snd.fst.drop i=rest) (hl:v.snd.fst.length≤1099511627776),cj (fun f=>sm f (rs,l,v,((i:Nat):Int))) (vF rest (rs,l,v,i)) (wv rest (rs,l,v,i))
 | [],rs,l,v,i,hd,hl=>ah (fun f=>(B3 f _ _ _ _).trans (by simp only[bW (aY hd),cB,aCw,aCu,aCn,aCq,aCx]<;>rfl)) (dA ae)
 | uu::rest,rs,l,v,i,hd,hl=>ah (fun f=>(B3 f _ _ _ _).trans (by simp only[bl (ag hd),aI hd,aM (ag hd) hl,aR (ag hd),cB,aCw,aCu,aCn,aCq,aCx]<;>rfl)) (aE (aE (aw ae (Tc rest _ _ _ _ (by first | exact aq hd | exact drop_set hd | exact au (drop_set hd)) (by first | exact hl | simpa using hl)))))
noncomputable def sA:List (bz)→((List (bA))×(List (bz))×bU×Nat)→Bool
 | [],(rs,l,v,i)=>wv v.2.1 (rs,l,v,0)
 | uu::rest,(rs,l,v,i)=>bif decide ((↑(List.length uu.2.2.2.2.1):Int)>12)then true else bif decide ((↑(List.length uu.2.2.2.2.2.1):Int)>8)then true else bif decide ((↑(List.length uu.2.2.2.2.2.2.1):Int)>8)then true else bif !rA (uu.2.2.2.2.1,uu.2.2.2.2.2.1,uu.2.2.2.2.2.2.1,uu.2.2.2.2.2.2.2.1,uu.2.2.2.2.2.2.2.2.1,uu.2.2.2.2.2.2.2.2.2.1)then true else wx (sA rest) uu.2.2.2.2.2.1 (rs,l,v,i,(uu.2.2.2.2.1,uu.2.2.2.2.2.1,uu.2.2.2.2.2.2.1,uu.2.2.2.2.2.2.2.1,uu.2.2.2.2.2.2.2.2.1,uu.2.2.2.2.2.2.2.2.2.1),0)
noncomputable def sf:List (bz)→((List (bA))×(List (bz))×bU×Nat)→Bool
 | [],(rs,l,v,i)=>decide (v.2.1.length≤1099511627776)&&vF v.2.1 (rs,l,v,0)
 | uu::rest,(rs,l,v,i)=>bif decide ((↑(List.length uu.2.2.2.2.1):Int)>12)then true else bif decide ((↑(List.length uu.2.2.2.2.2.1):Int)>8)then true else bif decide ((↑(List.length uu.2.2.2.2.2.2.1):Int)>8)then true else EP (uu.2.2.2.2.1,uu.2.2.2.2.2.1,uu.2.2.2.2.2.2.1,uu.2.2.2.2.2.2.2.1,uu.2.2.2.2.2.2.2.2.1,uu.2.2.2.2.2.2.2.2.2.1)&&bif !rA (uu.2.2.2.2.1,uu.2.2.2.2.2.1,uu.2.2.2.2.2.2.1,uu.2.2.2.2.2.2.2.1,uu.2.2.2.2.2.2.2.2.1,uu.2.2.2.2.2.2.2.2.2.1)then true else decide (List.length uu.2.2.2.2.2.1≤1099511627776)&&vG (sf rest) uu.2.2.2.2.2.1 (rs,l,v,i,(uu.2.2.2.2.1,uu.2.2.2.2.2.1,uu.2.2.2.2.2.2.1,uu.2.2.2.2.2.2.2.1,uu.2.2.2.2.2.2.2.2.1,uu.2.2.2.2.2.2.2.2.2.1),0)
theorem Te:∀(rest:List (bz)) (rs:List (bA)) (l:List (bz)) (v:bU) (i:Nat) (hd:l.drop i=rest) (hl:l.length≤1099511627776),cj (fun f=>sq f (rs,l,v,((i:Nat):Int))) (sf rest (rs,l,v,i)) (sA rest (rs,l,v,i))
 | [],rs,l,v,i,hd,hl=>ah (fun f=>(B5 f _ _ _ _).trans (by simp only[bW (aY hd),cB,aCw,aCu,aCn,aCq,aCx]<;>rfl)) (bC fun hh=>Tc _ _ _ _ _ rfl (aCE hh))
 | uu::rest,rs,l,v,i,hd,hl=>ah (fun f=>(B5 f _ _ _ _).trans (by simp only[bl (ag hd),aI hd,aM (ag hd) hl,aR (ag hd),cB,aCw,aCu,aCn,aCq,aCx]<;>rfl)) (aw ae (aw ae (aw ae (aE (aw ae (bC fun hh=>Td (Te rest) _ _ _ _ _ _ _ rfl (aCE hh) (by first | exact aq hd | exact drop_set hd | exact au (drop_set hd)) (by first | exact hl | simpa using hl) (by first | exact ag hd | simpa using ag hd)))))))
noncomputable def aeM:((List (bA))×(List (bz))×bU)→Bool
 | (rs,l,v)=>bif decide ((↑rs.length:Int)>16)then true else bif decide ((↑l.length:Int)>5)then true else bif decide ((↑(List.length v.2.1):Int)>8)then true else bif decide ((↑(List.length v.2.2):Int)>16)then true else sA l (rs,l,v,0)
noncomputable def acN:((List (bA))×(List (bz))×bU)→Bool
 | (rs,l,v)=>bif decide ((↑rs.length:Int)>16)then true else bif decide ((↑l.length:Int)>5)then true else bif decide ((↑(List.length v.2.1):Int)>8)then true else bif decide ((↑(List.length v.2.2):Int)>16)then true else decide (l.length≤1099511627776)&&sf l (rs,l,v,0)
theorem ZH:∀a:(List (bA))×(List (bz))×bU,cj (fun f=>adS f a) (acN a) (aeM a)
 | (rs,l,v)=>ah (fun f=>adR f _ _ _) (aw ae (aw ae (aw ae (aw ae (bC fun hh=>Te _ _ _ _ _ rfl (aCE hh))))))
structure OkR (r:bz):Prop where
 s:r.2.2.2.2.1.length≤12
 p:r.2.2.2.2.2.1.length≤8
 m:r.2.2.2.2.2.2.1.length≤8
 v:rA (r.2.2.2.2.1,r.2.2.2.2.2.1,r.2.2.2.2.2.2.1,r.2.2.2.2.2.2.2.1,r.2.2.2.2.2.2.2.2.1,r.2.2.2.2.2.2.2.2.2.1)=true
theorem ZV{rs:List bA}{l:List bz}{v:bU}(h1:rs.length≤16)(h2:l.length≤5)(h3:v.2.1.length≤8)(h:∀r∈l,OkR r):o3 (rs,3,l,v)=true:=by
 have hs:∀r∈l,br r.2.2.2.2.1=true∧fN r.2.2.2.2.2.1=true∧∀q∈r.2.2.2.2.2.1,0≤q.2.1∧q.2.1≤4611686018427387904:=fun r hr=>by
  have hk:=h r hr;obtain⟨a1,a2⟩:=agM hk.v;have hp:=hk.p;refine⟨ajI a1,?_,fun q hq=>?_⟩
  ·simp only[fN,aCs,aCy,aCG]
   exact⟨by omega,fun q hq=>(Qj (a2 q hq)).2.2⟩
  ·have:=Qj (a2 q hq);exact⟨this.1,this.2.1⟩
 simp only[o3,AT,n9,lO,Ka,FT,ux,aCs,aCy,aCG];have hm:∀r∈l,(nZ r).length≤8:=fun r hr=>(h r hr).m
 refine⟨⟨⟨⟨by omega,fun r hr=>by have:=hm r hr;omega⟩,fun r hr=>⟨(hs r hr).1,by have:=(h r hr).s;omega,(hs r hr).2.1,by have:=(h r hr).p;omega⟩,by omega,aCm (by omega),by omega⟩,⟨fun r hr=>⟨by have:=(h r hr).s;omega,by have:=(h r hr).p;omega,(hs r hr).2.2⟩,by omega⟩⟩,by omega,fun r hr=>⟨(hs r hr).1,(hs r hr).2.1,by have:=hm r hr;omega⟩⟩
theorem akC(rs:List bA)(l:List bz)(v:bU)(he:o3 (rs,3,l,v)=true)(hv:v.2.1.length≤8):∀(r:List Int) (k:Nat),v.2.1.drop k=r→wv r (rs,l,v,k)=true∧vF r (rs,l,v,k)=true
 | [],k,h=>⟨rfl,he⟩
 | u::r,k,h=>by
  obtain⟨i1,i2⟩:=akC rs l v he hv r (k+1) (aq h);have hk:=ag h;simp only[wv,vF,i1,i2];refine⟨by cases cT u (List.take ((k:Int)).toNat v.2.1)<;>rfl,?_⟩;rw[aCm (show(k:Int)≤(v.2.1.length:Int)by omega),show af (List.take ((k:Int)).toNat v.2.1)=true from aCm (by rw[aCV];omega)];cases cT u (List.take ((k:Int)).toNat v.2.1)<;>rfl
theorem akD(K KP:(List bA×List bz×bU×Nat)→Bool)(rs:List bA)(l:List bz)(v:bU)(i:Nat)(s:ao)(hK:K (rs,l,v,i+1)=true∧KP (rs,l,v,i+1)=true):∀(r:List bn) (k:Nat),wx K r (rs,l,v,i,s,k)=true∧vG KP r (rs,l,v,i,s,k)=true
 | [],k=>hK
 | u::r,k=>by
  obtain⟨i1,i2⟩:=akD K KP rs l v i s hK r (k+1);simp only[wx,vG,i1,i2];generalize (u.1 != _)=c;cases c<;>exact⟨rfl,rfl⟩
theorem akE(rs:List bA)(l:List bz)(v:bU)(h1:rs.length≤16)(h2:l.length≤5)(h3:v.2.1.length≤8)(hw:∀r∈l,iG r.2.2.2.2.2.1=true∧iG r.2.2.2.2.2.2.1=true∧iG r.2.2.2.2.2.2.2.1=true∧iG r.2.2.2.2.2.2.2.2.1=true∧iG r.2.2.2.2.2.2.2.2.2.1=true):
  ∀(r p:List bz) (k:Nat),l=p++r→(∀x∈p,OkR x)→sA r (rs,l,v,k)=true∧sf r (rs,l,v,k)=true
 | [],p,k,hp,aX=>by
  rw[aCM]at hp;have he:=ZV h1 h2 h3 (fun r hr=>aX r (by rw[← hp];exact hr));obtain⟨i1,i2⟩:=akC rs l v he h3 v.2.1 0 rfl;simp only[sA,sf,i1,i2];exact⟨trivial,by rw[aCm (show v.2.1.length≤1099511627776 by omega)];rfl⟩
 | u::r,p,k,hp,aX=>by
  have hu:u∈l:=by rw[hp];simp
  obtain⟨w1,w2,w3,w4,w5⟩:=hw u hu;have ih:=fun hx:OkR u=>akE rs l v h1 h2 h3 hw r (p++[u]) (k+1) (by rw[hp];simp) (fun x sG=>by
   rcases aC3.1 sG with h | h
   ·exact aX x h
   ·rw[aDi.1 h];exact hx)
  simp only[sA,sf];by_cases c1:((u.2.2.2.2.1.length:Nat):Int)>12
  ·rw[aCm c1];exact⟨rfl,rfl⟩
  rw[aCz c1];by_cases c2:((u.2.2.2.2.2.1.length:Nat):Int)>8
  ·rw[aCm c2];exact⟨rfl,rfl⟩
  rw[aCz c2];by_cases c3:((u.2.2.2.2.2.2.1.length:Nat):Int)>8
  ·rw[aCm c3];exact⟨rfl,rfl⟩
  rw[aCz c3];have hv:EP (u.2.2.2.2.1,u.2.2.2.2.2.1,u.2.2.2.2.2.2.1,u.2.2.2.2.2.2.2.1,u.2.2.2.2.2.2.2.2.1,u.2.2.2.2.2.2.2.2.2.1)=true:=by
   simp only[EP,w1,w2,w3,w4,w5,aCT,aCy];omega
  rw[hv,aCm (show u.2.2.2.2.2.1.length≤1099511627776 by omega)];cases hf:rA (u.2.2.2.2.1,u.2.2.2.2.2.1,u.2.2.2.2.2.2.1,u.2.2.2.2.2.2.2.1,u.2.2.2.2.2.2.2.2.1,u.2.2.2.2.2.2.2.2.2.1)with
  | false=>exact⟨rfl,rfl⟩
  | true=>
   have hx:OkR u:=⟨by omega,by omega,by omega,hf⟩;exact akD _ _ rs l v k _ (ih hx) _ 0
theorem rpW{r:bz}(h:j3 cV r):iG r.2.2.2.2.2.1=true∧iG r.2.2.2.2.2.2.1=true∧iG r.2.2.2.2.2.2.2.1=true∧iG r.2.2.2.2.2.2.2.2.1=true∧iG r.2.2.2.2.2.2.2.2.2.1=true:=by
 have h:=lh.1 h;obtain⟨_,h⟩:=cJ.1 h;obtain⟨_,h⟩:=cJ.1 h;obtain⟨_,h⟩:=cJ.1 h;obtain⟨_,h⟩:=cJ.1 h;obtain⟨_,h⟩:=cJ.1 h;obtain⟨h5,h⟩:=cJ.1 h;obtain⟨h6,h⟩:=cJ.1 h;obtain⟨h7,h⟩:=cJ.1 h;obtain⟨h8,h⟩:=cJ.1 h;obtain⟨h9,h⟩:=cJ.1 h;have h5:=mH.1 h5;have h6:=mH.1 h6;have h7:=mH.1 h7;have h8:=mH.1 h8;have h9:=mH.1 h9;have e:maxLen=9223372036854775807:=rfl;rw[e]at h5 h6 h7 h8 h9;exact⟨aCm h5.1,aCm h6.1,aCm h7.1,aCm h8.1,aCm h9.1⟩
theorem Ly{α:Type}{p:α→Prop}:∀{l:List α},P5 p l→∀x∈l,p x
 | a::l,h,x,hx=>by
  rcases aCJ.1 hx with rfl | hx
  ·exact h.1
  ·exact Ly h.2 x hx
 | [],_,x,hx=>by cases hx
theorem ZG:∀a:List bA×List bz×bU,(∀r∈a.2.1,j3 cV r)→∃f,adS f a=some true:=by
 rintro⟨rs,l,v⟩ hw;have hb:acN (rs,l,v)=true∧aeM (rs,l,v)=true:=by
  simp only[acN,aeM];by_cases c1:((rs.length:Nat):Int)>16
  ·rw[aCm c1];exact⟨rfl,rfl⟩
  rw[aCz c1];by_cases c2:((l.length:Nat):Int)>5
  ·rw[aCm c2];exact⟨rfl,rfl⟩
  rw[aCz c2];by_cases c3:((v.2.1.length:Nat):Int)>8
  ·rw[aCm c3];exact⟨rfl,rfl⟩
  rw[aCz c3];by_cases c4:((v.2.2.length:Nat):Int)>16
  ·rw[aCm c4];exact⟨rfl,rfl⟩
  rw[aCz c4];obtain⟨i1,i2⟩:=akE rs l v (by omega) (by omega) (by omega) (fun r hr=>rpW (hw r hr)) l [] 0 rfl (fun x hx=>by cases hx);rw[i1,i2,aCm (show l.length≤1099511627776 by omega)];exact⟨rfl,rfl⟩
 have h1:=ZH (rs,l,v) hb.1;rw[hb.2]at h1;exact h1
theorem ahE:∀a:dE [.rd dB,.rd cV,.g eN],s4 [.rd dB,.rd cV,.g eN] a→∀vs,cE [.rd dB,.rd cV,.g eN] a vs→Ew Tryz.prog 4 vs (cw [.v .bool] (true:Bool)):=by
 suffices key:∀a:List bA×List bz×bU,s4 [.rd dB,.rd cV,.g eN] a→∀vs,cE [.rd dB,.rd cV,.g eN] a vs→Ew Tryz.prog 4 vs (cw [.v .bool] (true:Bool))from key
 rintro⟨rs,l,v⟩ hw vs hv;obtain⟨v0,r0,rfl,⟨Qv,rfl,h0⟩,v1,r1,rfl,⟨Dq,rfl,h1⟩,v2,rfl,h2⟩:=(show ∃v0 r0,vs=v0::r0∧(∃rows,v0=.rd rows∧bK dB rs rows)∧∃v1 r1,r0=v1::r1∧(∃rows,v1=.rd rows∧bK cV l rows)∧∃v2,r1=[v2]∧j4 (.g eN) v v2 from hv);have hw1:∀r∈l,j3 cV r:=by
  simp only[s4,P4,agh]at hw;exact Ly hw.2.1.2
 have hb:Ew Tryz.prog 4 [.sl Qv,.sl Dq,v2] (cw [.v .bool] (true:Bool)):=(ZG (rs,l,v) hw1).elim fun f h=>iB (C:=L9) (Lt:=qH) (fn:=Tryz.f4) (rs:=[.tmp 6]) [.c (.sl dB),.c (.sl cV),.g eN] [.v (.bool)] mixed aps Tryz.func4 rfl rfl rfl (by kernel_rfl) (by kernel_rfl) (a:=((rs,l,v):List bA×List bz×bU)) f h _ (⟨_,_,rfl,mI.2 (.inr ⟨Qv,rfl,h0⟩),_,_,rfl,mI.2 (.inr ⟨Dq,rfl,h1⟩),_,rfl,h2⟩:∃v0 r0,[V.sl Qv,.sl Dq,v2]=v0::r0∧fk (.sl dB) rs v0∧∃v1 r1,r0=v1::r1∧fk (.sl cV) l v1∧∃v2,r1=[v2]∧j4 (.g eN) v v2)
 exact hb.pur (Vq true) ⟨.inr ⟨Qv,rfl,rfl⟩,.inr ⟨Dq,rfl,rfl⟩,.inl rfl,trivial⟩
end Go.AL
namespace Go.Proofs.YtfggefeflojnkaaGreat
open Go.AL
theorem Tryz.own:ownKnob Tryz.prog.godebug=none:=by kernel_rfl
theorem Tryz.laidOut:laidOutB Tryz.prog=true:=by kernel_rfl
