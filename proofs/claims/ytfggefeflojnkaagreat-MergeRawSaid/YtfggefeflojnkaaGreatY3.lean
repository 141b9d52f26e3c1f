/- By an AI agent. -/
import Derived.Test.YtfggefeflojnkaaGreatY2
set_option linter.unusedSimpArgs false
set_option linter.unusedVariables false
namespace Go.AL
open Go.Proofs
noncomputable def Hp:cR:=⟨Tryz.prog,[nO,gN,nJ,nN,Cg,nQ],dn [],70,[],[],[],[]⟩
theorem abo:bp Tryz.prog [nO,gN,nJ,nN,Cg,nQ] [] []:=ak sC (ak jf (ak tQ (ak tT (ak Ey (ak tV (aD))))))
def vM:Nat→LD:=ej [(0,⟨[.rd 0 aW,.c 3 (.int .i64)],[],0⟩)]
noncomputable def RZ(f:Nat)(a:(List (ax))):Option (Bool):=(aG (Hp) vM (aQ Tryz.prog [.tmp 2] [.v (.bool)]) f [.code (aC Tryz.f40)] (aV [.rd aW] a):Option (aA [.v (.bool)]))
noncomputable def er(f:Nat)(x:(List (ax))×Int):Option (Bool):=(aG (Hp) vM (aQ Tryz.prog [.tmp 2] [.v (.bool)]) f (aK Tryz.f40 0) ((vM 0).mk' x):Option (aA [.v (.bool)]))
theorem OD(f:Nat)(l:List (ax)):RZ (f+1) l =
  bif decide ((↑l.length:Int)>64)then some false else er f (l,0):=by kernel_rfl
theorem vV(f:Nat)(l:List (ax))(i:Int):er (f+1) (l,i) =
  bif decide (i<(↑l.length:Int))then bif decide (0≤i)&&decide (i<(↑l.length:Int))then bif decide ((l.getD i.toNat zq2).2.2.2.2.2.2.2.2.2.2.2.1<0)then some false else bif decide ((l.getD i.toNat zq2).2.2.2.2.2.2.2.2.2.2.2.1>1073741824)then some false else bif !((l.getD i.toNat zq2).2.2.2.2.2.2.2.2.2.2.2.2.1 == 0&&((l.getD i.toNat zq2).2.2.2.2.2.2.2.2.2.2.2.2.2.1 == 0&&((l.getD i.toNat zq2).2.2.2.2.2.2.2.2.2.2.2.2.2.2 == 0&&true)))then bif !dY (l.getD i.toNat zq2).2.2.2.2.2.2.2.2.2.2.2.2 then some false else bif(l.getD i.toNat zq2).2.2.2.2.2.2.2.2.2.2.2.2.2.2 != 0 then some false else bif bJ (l.getD i.toNat zq2)then bif !decide (((l.getD i.toNat zq2).1,(l.getD i.toNat zq2).2.1,(l.getD i.toNat zq2).2.2.1,(l.getD i.toNat zq2).2.2.2.1,(l.getD i.toNat zq2).2.2.2.2.1,(l.getD i.toNat zq2).2.2.2.2.2.1,(l.getD i.toNat zq2).2.2.2.2.2.2.1,(l.getD i.toNat zq2).2.2.2.2.2.2.2.1,(l.getD i.toNat zq2).2.2.2.2.2.2.2.2.1,(l.getD i.toNat zq2).2.2.2.2.2.2.2.2.2.1,(l.getD i.toNat zq2).2.2.2.2.2.2.2.2.2.2.1)=zq0)then some false else bif !((l.getD i.toNat zq2).2.2.2.2.2.2.2.2.2.2.2.2.1 == 0&&((l.getD i.toNat zq2).2.2.2.2.2.2.2.2.2.2.2.2.2.1 == 0&&((l.getD i.toNat zq2).2.2.2.2.2.2.2.2.2.2.2.2.2.2 == 0&&true)))then some false else er f (l,IntKind.i64.wrap (i+1))else bif !ee ((l.getD i.toNat zq2).1,(l.getD i.toNat zq2).2.1,(l.getD i.toNat zq2).2.2.1,(l.getD i.toNat zq2).2.2.2.1,(l.getD i.toNat zq2).2.2.2.2.1,(l.getD i.toNat zq2).2.2.2.2.2.1,(l.getD i.toNat zq2).2.2.2.2.2.2.1,(l.getD i.toNat zq2).2.2.2.2.2.2.2.1,(l.getD i.toNat zq2).2.2.2.2.2.2.2.2.1,(l.getD i.toNat zq2).2.2.2.2.2.2.2.2.2.1,(l.getD i.toNat zq2).2.2.2.2.2.2.2.2.2.2.1)then some false else bif af l then bif aL (dJ ((l.getD i.toNat zq2).1,(l.getD i.toNat zq2).2.1,(l.getD i.toNat zq2).2.2.1)) l 0 != i then some false else er f (l,IntKind.i64.wrap (i+1))else none else bif bJ (l.getD i.toNat zq2)then bif !decide (((l.getD i.toNat zq2).1,(l.getD i.toNat zq2).2.1,(l.getD i.toNat zq2).2.2.1,(l.getD i.toNat zq2).2.2.2.1,(l.getD i.toNat zq2).2.2.2.2.1,(l.getD i.toNat zq2).2.2.2.2.2.1,(l.getD i.toNat zq2).2.2.2.2.2.2.1,(l.getD i.toNat zq2).2.2.2.2.2.2.2.1,(l.getD i.toNat zq2).2.2.2.2.2.2.2.2.1,(l.getD i.toNat zq2).2.2.2.2.2.2.2.2.2.1,(l.getD i.toNat zq2).2.2.2.2.2.2.2.2.2.2.1)=zq0)then some false else bif !((l.getD i.toNat zq2).2.2.2.2.2.2.2.2.2.2.2.2.1 == 0&&((l.getD i.toNat zq2).2.2.2.2.2.2.2.2.2.2.2.2.2.1 == 0&&((l.getD i.toNat zq2).2.2.2.2.2.2.2.2.2.2.2.2.2.2 == 0&&true)))then some false else er f (l,IntKind.i64.wrap (i+1))else bif !ee ((l.getD i.toNat zq2).1,(l.getD i.toNat zq2).2.1,(l.getD i.toNat zq2).2.2.1,(l.getD i.toNat zq2).2.2.2.1,(l.getD i.toNat zq2).2.2.2.2.1,(l.getD i.toNat zq2).2.2.2.2.2.1,(l.getD i.toNat zq2).2.2.2.2.2.2.1,(l.getD i.toNat zq2).2.2.2.2.2.2.2.1,(l.getD i.toNat zq2).2.2.2.2.2.2.2.2.1,(l.getD i.toNat zq2).2.2.2.2.2.2.2.2.2.1,(l.getD i.toNat zq2).2.2.2.2.2.2.2.2.2.2.1)then some false else bif af l then bif aL (dJ ((l.getD i.toNat zq2).1,(l.getD i.toNat zq2).2.1,(l.getD i.toNat zq2).2.2.1)) l 0 != i then some false else er f (l,IntKind.i64.wrap (i+1))else none else none else some true:=by kernel_rfl
noncomputable def gd:List (ax)→((List (ax))×Nat)→Bool
 | [],(l,i)=>true
 | uu::rest,(l,i)=>bif decide (uu.2.2.2.2.2.2.2.2.2.2.2.1<0)then false else bif decide (uu.2.2.2.2.2.2.2.2.2.2.2.1>1073741824)then false else bif !(uu.2.2.2.2.2.2.2.2.2.2.2.2.1 == 0&&(uu.2.2.2.2.2.2.2.2.2.2.2.2.2.1 == 0&&(uu.2.2.2.2.2.2.2.2.2.2.2.2.2.2 == 0&&true)))then bif !dY uu.2.2.2.2.2.2.2.2.2.2.2.2 then false else bif uu.2.2.2.2.2.2.2.2.2.2.2.2.2.2 != 0 then false else bif bJ uu then bif !decide ((uu.1,uu.2.1,uu.2.2.1,uu.2.2.2.1,uu.2.2.2.2.1,uu.2.2.2.2.2.1,uu.2.2.2.2.2.2.1,uu.2.2.2.2.2.2.2.1,uu.2.2.2.2.2.2.2.2.1,uu.2.2.2.2.2.2.2.2.2.1,uu.2.2.2.2.2.2.2.2.2.2.1)=zq0)then false else bif !(uu.2.2.2.2.2.2.2.2.2.2.2.2.1 == 0&&(uu.2.2.2.2.2.2.2.2.2.2.2.2.2.1 == 0&&(uu.2.2.2.2.2.2.2.2.2.2.2.2.2.2 == 0&&true)))then false else gd rest (l,i+1)else bif !ee (uu.1,uu.2.1,uu.2.2.1,uu.2.2.2.1,uu.2.2.2.2.1,uu.2.2.2.2.2.1,uu.2.2.2.2.2.2.1,uu.2.2.2.2.2.2.2.1,uu.2.2.2.2.2.2.2.2.1,uu.2.2.2.2.2.2.2.2.2.1,uu.2.2.2.2.2.2.2.2.2.2.1)then false else bif aL (dJ (uu.1,uu.2.1,uu.2.2.1)) l 0 != (↑i:Int)then false else gd rest (l,i+1)else bif bJ uu then bif !decide ((uu.1,uu.2.1,uu.2.2.1,uu.2.2.2.1,uu.2.2.2.2.1,uu.2.2.2.2.2.1,uu.2.2.2.2.2.2.1,uu.2.2.2.2.2.2.2.1,uu.2.2.2.2.2.2.2.2.1,uu.2.2.2.2.2.2.2.2.2.1,uu.2.2.2.2.2.2.2.2.2.2.1)=zq0)then false else bif !(uu.2.2.2.2.2.2.2.2.2.2.2.2.1 == 0&&(uu.2.2.2.2.2.2.2.2.2.2.2.2.2.1 == 0&&(uu.2.2.2.2.2.2.2.2.2.2.2.2.2.2 == 0&&true)))then false else gd rest (l,i+1)else bif !ee (uu.1,uu.2.1,uu.2.2.1,uu.2.2.2.1,uu.2.2.2.2.1,uu.2.2.2.2.2.1,uu.2.2.2.2.2.2.1,uu.2.2.2.2.2.2.2.1,uu.2.2.2.2.2.2.2.2.1,uu.2.2.2.2.2.2.2.2.2.1,uu.2.2.2.2.2.2.2.2.2.2.1)then false else bif aL (dJ (uu.1,uu.2.1,uu.2.2.1)) l 0 != (↑i:Int)then false else gd rest (l,i+1)
noncomputable def gb:List (ax)→((List (ax))×Nat)→Bool
 | [],(l,i)=>true
 | uu::rest,(l,i)=>bif decide (uu.2.2.2.2.2.2.2.2.2.2.2.1<0)then true else bif decide (uu.2.2.2.2.2.2.2.2.2.2.2.1>1073741824)then true else bif !(uu.2.2.2.2.2.2.2.2.2.2.2.2.1 == 0&&(uu.2.2.2.2.2.2.2.2.2.2.2.2.2.1 == 0&&(uu.2.2.2.2.2.2.2.2.2.2.2.2.2.2 == 0&&true)))then bif !dY uu.2.2.2.2.2.2.2.2.2.2.2.2 then true else bif uu.2.2.2.2.2.2.2.2.2.2.2.2.2.2 != 0 then true else bif bJ uu then bif !decide ((uu.1,uu.2.1,uu.2.2.1,uu.2.2.2.1,uu.2.2.2.2.1,uu.2.2.2.2.2.1,uu.2.2.2.2.2.2.1,uu.2.2.2.2.2.2.2.1,uu.2.2.2.2.2.2.2.2.1,uu.2.2.2.2.2.2.2.2.2.1,uu.2.2.2.2.2.2.2.2.2.2.1)=zq0)then true else bif !(uu.2.2.2.2.2.2.2.2.2.2.2.2.1 == 0&&(uu.2.2.2.2.2.2.2.2.2.2.2.2.2.1 == 0&&(uu.2.2.2.2.2.2.2.2.2.2.2.2.2.2 == 0&&true)))then true else gb rest (l,i+1)else bif !ee (uu.1,uu.2.1,uu.2.2.1,uu.2.2.2.1,uu.2.2.2.2.1,uu.2.2.2.2.2.1,uu.2.2.2.2.2.2.1,uu.2.2.2.2.2.2.2.1,uu.2.2.2.2.2.2.2.2.1,uu.2.2.2.2.2.2.2.2.2.1,uu.2.2.2.2.2.2.2.2.2.2.1)then true else af l&&bif aL (dJ (uu.1,uu.2.1,uu.2.2.1)) l 0 != (↑i:Int)then true else gb rest (l,i+1)else bif bJ uu then bif !decide ((uu.1,uu.2.1,uu.2.2.1,uu.2.2.2.1,uu.2.2.2.2.1,uu.2.2.2.2.2.1,uu.2.2.2.2.2.2.1,uu.2.2.2.2.2.2.2.1,uu.2.2.2.2.2.2.2.2.1,uu.2.2.2.2.2.2.2.2.2.1,uu.2.2.2.2.2.2.2.2.2.2.1)=zq0)then true else bif !(uu.2.2.2.2.2.2.2.2.2.2.2.2.1 == 0&&(uu.2.2.2.2.2.2.2.2.2.2.2.2.2.1 == 0&&(uu.2.2.2.2.2.2.2.2.2.2.2.2.2.2 == 0&&true)))then true else gb rest (l,i+1)else bif !ee (uu.1,uu.2.1,uu.2.2.1,uu.2.2.2.1,uu.2.2.2.2.1,uu.2.2.2.2.2.1,uu.2.2.2.2.2.2.1,uu.2.2.2.2.2.2.2.1,uu.2.2.2.2.2.2.2.2.1,uu.2.2.2.2.2.2.2.2.2.1,uu.2.2.2.2.2.2.2.2.2.2.1)then true else af l&&bif aL (dJ (uu.1,uu.2.1,uu.2.2.1)) l 0 != (↑i:Int)then true else gb rest (l,i+1)
theorem mF:∀(rest:List (ax)) (l:List (ax)) (i:Nat) (hd:l.drop i=rest) (hl:l.length≤1099511627776),cj (fun f=>er f (l,((i:Nat):Int))) (gb rest (l,i)) (gd rest (l,i))
 | [],l,i,hd,hl=>ah (fun f=>(vV f _ _).trans (by simp only[bW (aY hd),cB,aCw,aCu,aCn,aCq,aCx]<;>rfl)) ae
 | uu::rest,l,i,hd,hl=>ah (fun f=>(vV f _ _).trans (by simp only[bl (ag hd),aI hd,aM (ag hd) hl,aR (ag hd),cB,aCw,aCu,aCn,aCq,aCx]<;>rfl)) (aw ae (aw ae (aw (aw ae (aw ae (aw (aw ae (aw ae (mF rest _ _ (by first | exact aq hd | exact drop_set hd | exact au (drop_set hd)) (by first | exact hl | simpa using hl)))) (aw ae (aE (aw ae (mF rest _ _ (by first | exact aq hd | exact drop_set hd | exact au (drop_set hd)) (by first | exact hl | simpa using hl)))))))) (aw (aw ae (aw ae (mF rest _ _ (by first | exact aq hd | exact drop_set hd | exact au (drop_set hd)) (by first | exact hl | simpa using hl)))) (aw ae (aE (aw ae (mF rest _ _ (by first | exact aq hd | exact drop_set hd | exact au (drop_set hd)) (by first | exact hl | simpa using hl)))))))))
noncomputable def G5:(List (ax))→Bool
 | l=>bif decide ((↑l.length:Int)>64)then false else gd l (l,0)
noncomputable def GG:(List (ax))→Bool
 | l=>bif decide ((↑l.length:Int)>64)then true else decide (l.length≤1099511627776)&&gb l (l,0)
theorem MV:∀a:(List (ax)),cj (fun f=>RZ f a) (GG a) (G5 a)
 | l=>ah (fun f=>OD f _) (aw ae (bC fun hh=>mF _ _ _ rfl (aCE hh)))
theorem E2(l:List ax)(hl:l.length≤68719476736):∀(r:List ax) (k:Nat),l.drop k=r→gd r (l,k)=sZ (l.take k) r∧gb r (l,k)=true
 | [],k,h=>⟨rfl,rfl⟩
 | u::r,k,h=>by
  obtain⟨i1,i2⟩:=E2 l hl r (k+1) (aq h);have Ky:af l=true:=aCm (by omega);have hk:bJ u=false→(aL (dJ (jl u)) l 0 != (k:Int))=(l.take k).any (dJ (jl u)):=by
   intro he;have hp:dJ (jl u) u=true:=by simp[dJ,he]
   have:=Bo (p:=dJ (jl u)) l 0 k u r h hp;cases ha:(l.take k).any (dJ (jl u))
   ·have e:=this.2 ha;rw[e];simp
   ·have:¬ aL (dJ (jl u)) l 0=0+(k:Nat):=fun e=>by rw[this.1 e]at ha;cases ha
    simp;omega
  have hz:bJ u=true→(l.take k).any (dJ (jl u))=false:=by
   intro he;rw[ajE he];exact aEq.2 (fun x _=>by simp[UN])
  simp only[gd,gb,i1,i2,ahf,Ky,aCu,sZ,Qi,ao7,eX h];have e:((kR u).2.2 != 0) = !decide ((kR u).2.2=0):=Gm _ _;constructor
  ·show(bif decide (sS u<0)then false else bif decide (sS u>1073741824)then false else bif !decide (kR u=(0,0,0))then bif !dY (kR u)then false else bif(kR u).2.2 != 0 then false else bif bJ u then bif !decide (snd u=z8)then false else bif !decide (kR u=(0,0,0))then false else sZ (l.take k++[u]) r else bif !ee (snd u)then false else bif aL (dJ (jl u)) l 0 != (k:Int)then false else sZ (l.take k++[u]) r
    else bif bJ u then bif !decide (snd u=z8)then false else bif !decide (kR u=(0,0,0))then false else sZ (l.take k++[u]) r else bif !ee (snd u)then false else bif aL (dJ (jl u)) l 0 != (k:Int)then false else sZ (l.take k++[u]) r)=_
   rw[e];cases he:bJ u
   ·rw[hk he]
    cases decide (sS u<0)<;>cases decide (1073741824<sS u)<;>cases ee (snd u)<;>cases decide (kR u=(0,0,0))<;>cases dY (kR u)<;>cases decide ((kR u).2.2=0)<;>cases (l.take k).any (dJ (jl u))<;>rfl
   ·rw[hz he]
    cases decide (sS u<0)<;>cases decide (1073741824<sS u)<;>cases decide (snd u=z8)<;>cases decide (kR u=(0,0,0))<;>cases dY (kR u)<;>cases decide ((kR u).2.2=0)<;>rfl
  ·simp
theorem ahl:∀a:List ax,decide (a.length≤68719476736)=true→GG a=true:=fun a h=>by
 have h:a.length≤68719476736:=aCE h;simp only[GG,(E2 a h a 0 rfl).2,aCT];rw[aCm (show a.length≤1099511627776 by omega)];exact zq rfl
theorem ahm:∀a:List ax,decide (a.length≤68719476736)=true→G5 a=pb a:=fun a h=>by
 have h:a.length≤68719476736:=aCE h;simp only[G5,pb,asm,(E2 a h a 0 rfl).1,aDE];cases decide (a.length≤64)<;>rfl
abbrev TN:=bm MV ahl ahm
noncomputable def Hg:db:=⟨40,[.rd aW],[.v (.bool)],fun a=>(fun a=>decide (a.length≤68719476736):(List (ax))→Bool) a,fun a=>(pb:(List (ax))→Bool) a⟩
theorem Pj:Hg.Ok Tryz.prog:=eB (C:=Hp) (Lt:=vM) (rs:=[.tmp 2]) mixed abo Tryz.func40 rfl rfl rfl (by kernel_rfl) (by kernel_rfl) TN
noncomputable def amb:cR:=⟨Tryz.prog,[Cm,Ch,nJ,nN],dn [],46,[],[],[],[]⟩
theorem ape:bp Tryz.prog [Cm,Ch,nJ,nN] [] []:=ak EC (ak Ez (ak tQ (ak tT (aD))))
def aen:Nat→LD:=ej []
noncomputable def alC(f:Nat)(a:bn):Option (Bool):=(aG (amb) aen (aQ Tryz.prog [.tmp 2] [.v (.bool)]) f [.code (aC Tryz.f42)] (aV [.g cc] a):Option (aA [.v (.bool)]))
theorem ac5(f:Nat)(r:bn):alC (f+1) r =
  bif !CZ (r.1,r.2.1,r.2.2.1)then some false else bif decide (r.2.2.2.1<1)then some false else bif decide (r.2.2.2.1>6)then some false else bif !(decide (0≤r.2.2.2.2.2.2.2.2.2.2.2.2.2.2.2.1)&&decide (r.2.2.2.2.2.2.2.2.2.2.2.2.2.2.2.1<16))then some false else bif r.2.2.2.2.2.2.2.2.2.2.2.2.2.2.2.2.1 != 32 then bif r.2.2.2.2.2.2.2.2.2.2.2.2.2.2.2.2.1 != 39 then some false else bif r.2.2.2.1 == 1 then some (decide (r.2.2.2.2.2.2.2.2.2.2.2.2.2.2.2.2.2=zq0))else some (ee r.2.2.2.2.2.2.2.2.2.2.2.2.2.2.2.2.2)else bif r.2.2.2.1 == 1 then some (decide (r.2.2.2.2.2.2.2.2.2.2.2.2.2.2.2.2.2=zq0))else some (ee r.2.2.2.2.2.2.2.2.2.2.2.2.2.2.2.2.2):=by kernel_rfl
noncomputable def kB:bn→Bool
 | r=>bif !CZ (r.1,r.2.1,r.2.2.1)then false else bif decide (r.2.2.2.1<1)then false else bif decide (r.2.2.2.1>6)then false else bif !(decide (0≤r.2.2.2.2.2.2.2.2.2.2.2.2.2.2.2.1)&&decide (r.2.2.2.2.2.2.2.2.2.2.2.2.2.2.2.1<16))then false else bif r.2.2.2.2.2.2.2.2.2.2.2.2.2.2.2.2.1 != 32 then bif r.2.2.2.2.2.2.2.2.2.2.2.2.2.2.2.2.1 != 39 then false else bif r.2.2.2.1 == 1 then decide (r.2.2.2.2.2.2.2.2.2.2.2.2.2.2.2.2.2=zq0)else ee r.2.2.2.2.2.2.2.2.2.2.2.2.2.2.2.2.2 else bif r.2.2.2.1 == 1 then decide (r.2.2.2.2.2.2.2.2.2.2.2.2.2.2.2.2.2=zq0)else ee r.2.2.2.2.2.2.2.2.2.2.2.2.2.2.2.2.2
noncomputable def alx:bn→Bool
 | r=>true
theorem Xy:∀a:bn,cj (fun f=>alC f a) (alx a) (kB a)
 | r=>ah (fun f=>ac5 f _) (aT ae (aT ae (aT ae (aT ae (aT (aT ae (aT ae ae)) (aT ae ae))))))
theorem ara:∀a:bn,(fun _=>true) a=true→alx a=true:=fun a _=>rfl
theorem arb:∀a:bn,(fun _=>true) a=true→kB a=kB a:=fun _ _=>rfl
abbrev agN:=bm Xy ara arb
noncomputable def ae4:db:=⟨42,[.g cc],[.v (.bool)],fun a=>(fun _=>true:bn→Bool) a,fun a=>(kB:bn→Bool) a⟩
theorem ae3:ae4.Ok Tryz.prog:=eB (C:=amb) (Lt:=aen) (rs:=[.tmp 2]) mixed ape Tryz.func42 rfl rfl rfl (by kernel_rfl) (by kernel_rfl) agN
def oR(s:ao):Bool:=br s.1&&(fN s.2.1&&(af s.2.2.1&&(af s.2.2.2.1&&(zg s.2.2.2.2.1&&af s.2.2.2.2.2))))
noncomputable def EG:cR:=⟨Tryz.prog,[Hg,PB,ae4,nP,Ch,Cm,Hk,PF,nN],dn [(6,([(0,[]),(1,[]),(2,[]),(3,[]),(4,[]),(5,[]),(6,[]),(7,[]),(8,[]),(9,[]),(10,[]),(11,[]),(12,[]),(13,[]),(14,[]),(15,[]),(16,[]),(17,[]),(18,[]),(19,[]),(20,[]),(21,[]),(22,[]),(23,[]),(24,[]),(25,[]),(26,[]),(27,[])],[(27,54)])),(12,([(0,[]),(1,[]),(2,[]),(3,[]),(4,[]),(5,[]),(6,[]),(7,[]),(8,[]),(9,[]),(10,[]),(11,[]),(12,[]),(13,[]),(14,[]),(15,[]),(16,[]),(17,[]),(18,[]),(19,[]),(20,[]),(21,[]),(22,[]),(23,[]),(24,[]),(25,[])],[(67,92)])),(18,([(0,[]),(1,[]),(2,[]),(3,[]),(4,[]),(5,[]),(6,[]),(7,[]),(8,[]),(9,[]),(10,[]),(11,[]),(12,[]),(13,[]),(14,[]),(15,[]),(16,[]),(17,[]),(18,[]),(19,[]),(20,[]),(21,[]),(22,[]),(23,[]),(24,[]),(25,[]),(26,[]),(27,[]),(28,[]),(29,[])],[(105,134)])),(24,([(0,[]),(1,[]),(2,[]),(3,[]),(4,[]),(5,[]),(6,[]),(7,[]),(8,[]),(9,[]),(10,[]),(11,[]),(12,[]),(13,[]),(14,[]),(15,[]),(16,[]),(17,[]),(18,[]),(19,[]),(20,[]),(21,[]),(22,[]),(23,[]),(24,[]),(25,[]),(26,[]),(27,[]),(28,[]),(29,[]),(30,[]),(31,[]),(32,[]),(33,[]),(34,[]),(35,[]),(36,[]),(37,[]),(38,[])],[(147,185)]))],186,[],[],[],[]⟩
theorem apd:bp Tryz.prog [Hg,PB,ae4,nP,Ch,Cm,Hk,PF,nN] [] []:=ak Pj (ak WX (ak ae3 (ak sD (ak Ez (ak EC (ak PD (ak W4 (ak tT (aD)))))))))
def kP:Nat→LD:=ej [(0,⟨[.box 1 1 38 6 ba,.c 3 (.int .i64)],[],0⟩),(2,⟨[.box 1 1 38 6 ba,.c 4 (.int .i64)],[],0⟩),(4,⟨[.box 1 1 38 6 ba,.c 6 (.int .i64)],[],0⟩),(6,⟨[.box 1 1 38 6 ba,.c 8 (.int .i64)],[],0⟩)]
noncomputable def ac4(f:Nat)(a:ao):Option (Bool):=(aG (EG) kP (aQ Tryz.prog [.tmp 2] [.v (.bool)]) f [.code (aC Tryz.f15)] (aV [.g ba] a):Option (aA [.v (.bool)]))
noncomputable def nD(f:Nat)(x:ao×Int):Option (Bool):=(aG (EG) kP (aQ Tryz.prog [.tmp 2] [.v (.bool)]) f (aK Tryz.f15 0) ((kP 0).mk' x):Option (aA [.v (.bool)]))
noncomputable def kA(f:Nat)(x:ao×Int):Option (Bool):=(aG (EG) kP (aQ Tryz.prog [.tmp 2] [.v (.bool)]) f (aK Tryz.f15 2) ((kP 2).mk' x):Option (aA [.v (.bool)]))
noncomputable def kz(f:Nat)(x:ao×Int):Option (Bool):=(aG (EG) kP (aQ Tryz.prog [.tmp 2] [.v (.bool)]) f (aK Tryz.f15 4) ((kP 4).mk' x):Option (aA [.v (.bool)]))
noncomputable def ky(f:Nat)(x:ao×Int):Option (Bool):=(aG (EG) kP (aQ Tryz.prog [.tmp 2] [.v (.bool)]) f (aK Tryz.f15 6) ((kP 6).mk' x):Option (aA [.v (.bool)]))
theorem ac3(f:Nat)(s:ao):ac4 (f+1) s =
  bif decide (List.length s.1≤68719476736)then bif !pb s.1 then some false else bif decide (List.length s.2.2.2.2.2≤9223372036854775807)then bif !Fz true s.2.2.2.2.2 then some false else nD f (s,0)else none else none:=by kernel_rfl
theorem BV(f:Nat)(s:ao)(i:Int):nD (f+1) (s,i) =
  bif decide (i<(↑(List.length s.2.1):Int))then bif decide (0≤i)&&decide (i<(↑(List.length s.2.1):Int))then bif !kB (List.getD s.2.1 i.toNat zq3)then some false else bif decide (i>0)then bif decide (0≤IntKind.i64.wrap (i-1))&&decide (IntKind.i64.wrap (i-1)<(↑(List.length s.2.1):Int))then bif decide (0≤i)&&decide (i<(↑(List.length s.2.1):Int))then bif !cf (((List.getD s.2.1 (IntKind.i64.wrap (i-1)).toNat zq3).1,(List.getD s.2.1 (IntKind.i64.wrap (i-1)).toNat zq3).2.1,(List.getD s.2.1 (IntKind.i64.wrap (i-1)).toNat zq3).2.2.1),(List.getD s.2.1 i.toNat zq3).1,(List.getD s.2.1 i.toNat zq3).2.1,(List.getD s.2.1 i.toNat zq3).2.2.1)then some false else nD f (s,IntKind.i64.wrap (i+1))else none else none else nD f (s,IntKind.i64.wrap (i+1))else none else kA f (s,0):=by kernel_rfl
theorem BU(f:Nat)(s:ao)(i:Int):kA (f+1) (s,i) =
  bif decide (i<(↑(List.length s.2.2.1):Int))then bif decide (0≤i)&&decide (i<(↑(List.length s.2.2.1):Int))then bif !(decide (0≤(List.getD s.2.2.1 i.toNat (0,0,0,0)).1)&&decide ((List.getD s.2.2.1 i.toNat (0,0,0,0)).1<16))then some false else bif !CZ (List.getD s.2.2.1 i.toNat (0,0,0,0)).2 then some false else bif decide (i>0)then bif decide (0≤IntKind.i64.wrap (i-1))&&decide (IntKind.i64.wrap (i-1)<(↑(List.length s.2.2.1):Int))then bif decide ((List.getD s.2.2.1 i.toNat (0,0,0,0)).1≤(List.getD s.2.2.1 (IntKind.i64.wrap (i-1)).toNat (0,0,0,0)).1)then some false else kA f (s,IntKind.i64.wrap (i+1))else none else kA f (s,IntKind.i64.wrap (i+1))else none else kz f (s,0):=by kernel_rfl
theorem BT(f:Nat)(s:ao)(i:Int):kz (f+1) (s,i) =
  bif decide (i<(↑(List.length s.2.2.2.1):Int))then bif decide (0≤i)&&decide (i<(↑(List.length s.2.2.2.1):Int))then bif decide ((List.getD s.2.2.2.1 i.toNat (0,0)).1<1)then some false else bif decide ((List.getD s.2.2.2.1 i.toNat (0,0)).1>1073741824)then some false else bif !(decide (0≤(List.getD s.2.2.2.1 i.toNat (0,0)).2)&&decide ((List.getD s.2.2.2.1 i.toNat (0,0)).2≤99))then some false else bif decide (i>0)then bif decide (0≤IntKind.i64.wrap (i-1))&&decide (IntKind.i64.wrap (i-1)<(↑(List.length s.2.2.2.1):Int))then bif decide ((List.getD s.2.2.2.1 i.toNat (0,0)).1≤(List.getD s.2.2.2.1 (IntKind.i64.wrap (i-1)).toNat (0,0)).1)then some false else kz f (s,IntKind.i64.wrap (i+1))else none else kz f (s,IntKind.i64.wrap (i+1))else none else ky f (s,0):=by kernel_rfl
theorem BS(f:Nat)(s:ao)(i:Int):ky (f+1) (s,i) =
  bif decide (i<(↑(List.length s.2.2.2.2.1):Int))then bif decide (0≤i)&&decide (i<(↑(List.length s.2.2.2.2.1):Int))then bif !(decide (0≤(List.getD s.2.2.2.2.1 i.toNat zq1).1)&&decide ((List.getD s.2.2.2.2.1 i.toNat zq1).1<32))then some false else bif decide ((List.getD s.2.2.2.2.1 i.toNat zq1).2.1<0)then some false else bif decide ((List.getD s.2.2.2.2.1 i.toNat zq1).2.1≥64)then some false else bif !ee (List.getD s.2.2.2.2.1 i.toNat zq1).2.2 then some false else bif decide (i>0)then bif decide (0≤IntKind.i64.wrap (i-1))&&decide (IntKind.i64.wrap (i-1)<(↑(List.length s.2.2.2.2.1):Int))then bif !cf (((List.getD s.2.2.2.2.1 (IntKind.i64.wrap (i-1)).toNat zq1).2.2.1,(List.getD s.2.2.2.2.1 (IntKind.i64.wrap (i-1)).toNat zq1).2.2.2.1,(List.getD s.2.2.2.2.1 (IntKind.i64.wrap (i-1)).toNat zq1).2.2.2.2.1),(List.getD s.2.2.2.2.1 i.toNat zq1).2.2.1,(List.getD s.2.2.2.2.1 i.toNat zq1).2.2.2.1,(List.getD s.2.2.2.2.1 i.toNat zq1).2.2.2.2.1)then some false else ky f (s,IntKind.i64.wrap (i+1))else none else ky f (s,IntKind.i64.wrap (i+1))else none else some true:=by kernel_rfl
noncomputable def zY:List (Int×Int×Int×Int×Int×(List (Int×Int×Int))×Int×Int×Int×Int×Int×Int×Bool)→(ao×Nat)→Bool
 | [],(s,i)=>true
 | uu::rest,(s,i)=>bif !(decide (0≤uu.1)&&decide (uu.1<32))then false else bif decide (uu.2.1<0)then false else bif decide (uu.2.1≥64)then false else bif !ee uu.2.2 then false else bif decide ((↑i:Int)>0)then bif !cf (((List.getD s.2.2.2.2.1 (IntKind.i64.wrap ((↑i:Int)-1)).toNat zq1).2.2.1,(List.getD s.2.2.2.2.1 (IntKind.i64.wrap ((↑i:Int)-1)).toNat zq1).2.2.2.1,(List.getD s.2.2.2.2.1 (IntKind.i64.wrap ((↑i:Int)-1)).toNat zq1).2.2.2.2.1),uu.2.2.1,uu.2.2.2.1,uu.2.2.2.2.1)then false else zY rest (s,i+1)else zY rest (s,i+1)
noncomputable def km:List (Int×Int×Int×Int×Int×(List (Int×Int×Int))×Int×Int×Int×Int×Int×Int×Bool)→(ao×Nat)→Bool
 | [],(s,i)=>true
 | uu::rest,(s,i)=>bif !(decide (0≤uu.1)&&decide (uu.1<32))then true else bif decide (uu.2.1<0)then true else bif decide (uu.2.1≥64)then true else bif !ee uu.2.2 then true else bif decide ((↑i:Int)>0)then decide (0≤IntKind.i64.wrap ((↑i:Int)-1))&&decide (IntKind.i64.wrap ((↑i:Int)-1)<(↑(List.length s.2.2.2.2.1):Int))&&bif !cf (((List.getD s.2.2.2.2.1 (IntKind.i64.wrap ((↑i:Int)-1)).toNat zq1).2.2.1,(List.getD s.2.2.2.2.1 (IntKind.i64.wrap ((↑i:Int)-1)).toNat zq1).2.2.2.1,(List.getD s.2.2.2.2.1 (IntKind.i64.wrap ((↑i:Int)-1)).toNat zq1).2.2.2.2.1),uu.2.2.1,uu.2.2.2.1,uu.2.2.2.2.1)then true else km rest (s,i+1)else km rest (s,i+1)
theorem Hz:∀(rest:List (Int×Int×Int×Int×Int×(List (Int×Int×Int))×Int×Int×Int×Int×Int×Int×Bool)) (s:ao) (i:Nat) (hd:s.snd.snd.snd.snd.fst.drop i=rest) (hl:s.snd.snd.snd.snd.fst.length≤9223372036854775807),cj (fun f=>ky f (s,((i:Nat):Int))) (km rest (s,i)) (zY rest (s,i))
 | [],s,i,hd,hl=>ah (fun f=>(BS f _ _).trans (by simp only[bW (aY hd),cB,aCw,aCu,aCn,aCq,aCx]<;>rfl)) ae
 | uu::rest,s,i,hd,hl=>ah (fun f=>(BS f _ _).trans (by simp only[bl (ag hd),aI hd,jh (ag hd) hl,aR (ag hd),cB,aCw,aCu,aCn,aCq,aCx]<;>rfl)) (aw ae (aw ae (aw ae (aw ae (aw (aE (aw ae (Hz rest _ _ (by first | exact aq hd | exact drop_set hd | exact au (drop_set hd)) (by first | exact hl | simpa using hl)))) (Hz rest _ _ (by first | exact aq hd | exact drop_set hd | exact au (drop_set hd)) (by first | exact hl | simpa using hl)))))))
noncomputable def zZ:List (Int×Int)→(ao×Nat)→Bool
 | [],(s,i)=>zY s.2.2.2.2.1 (s,0)
 | uu::rest,(s,i)=>bif decide (uu.1<1)then false else bif decide (uu.1>1073741824)then false else bif !(decide (0≤uu.2)&&decide (uu.2≤99))then false else bif decide ((↑i:Int)>0)then bif decide (uu.1≤(List.getD s.2.2.2.1 (IntKind.i64.wrap ((↑i:Int)-1)).toNat (0,0)).1)then false else zZ rest (s,i+1)else zZ rest (s,i+1)
noncomputable def ko:List (Int×Int)→(ao×Nat)→Bool
 | [],(s,i)=>decide (s.2.2.2.2.1.length≤9223372036854775807)&&km s.2.2.2.2.1 (s,0)
 | uu::rest,(s,i)=>bif decide (uu.1<1)then true else bif decide (uu.1>1073741824)then true else bif !(decide (0≤uu.2)&&decide (uu.2≤99))then true else bif decide ((↑i:Int)>0)then decide (0≤IntKind.i64.wrap ((↑i:Int)-1))&&decide (IntKind.i64.wrap ((↑i:Int)-1)<(↑(List.length s.2.2.2.1):Int))&&bif decide (uu.1≤(List.getD s.2.2.2.1 (IntKind.i64.wrap ((↑i:Int)-1)).toNat (0,0)).1)then true else ko rest (s,i+1)else ko rest (s,i+1)
theorem HV:∀(rest:List (Int×Int)) (s:ao) (i:Nat) (hd:s.snd.snd.snd.fst.drop i=rest) (hl:s.snd.snd.snd.fst.length≤9223372036854775807),cj (fun f=>kz f (s,((i:Nat):Int))) (ko rest (s,i)) (zZ rest (s,i))
 | [],s,i,hd,hl=>ah (fun f=>(BT f _ _).trans (by simp only[bW (aY hd),cB,aCw,aCu,aCn,aCq,aCx]<;>rfl)) (bC fun hh=>Hz _ _ _ rfl (aCE hh))
 | uu::rest,s,i,hd,hl=>ah (fun f=>(BT f _ _).trans (by simp only[bl (ag hd),aI hd,jh (ag hd) hl,aR (ag hd),cB,aCw,aCu,aCn,aCq,aCx]<;>rfl)) (aw ae (aw ae (aw ae (aw (aE (aw ae (HV rest _ _ (by first | exact aq hd | exact drop_set hd | exact au (drop_set hd)) (by first | exact hl | simpa using hl)))) (HV rest _ _ (by first | exact aq hd | exact drop_set hd | exact au (drop_set hd)) (by first | exact hl | simpa using hl))))))
noncomputable def z6:List (Int×Int×Int×Int)→(ao×Nat)→Bool
 | [],(s,i)=>zZ s.2.2.2.1 (s,0)
 | uu::rest,(s,i)=>bif !(decide (0≤uu.1)&&decide (uu.1<16))then false else bif !CZ uu.2 then false else bif decide ((↑i:Int)>0)then bif decide (uu.1≤(List.getD s.2.2.1 (IntKind.i64.wrap ((↑i:Int)-1)).toNat (0,0,0,0)).1)then false else z6 rest (s,i+1)else z6 rest (s,i+1)
noncomputable def kq:List (Int×Int×Int×Int)→(ao×Nat)→Bool
 | [],(s,i)=>decide (s.2.2.2.1.length≤9223372036854775807)&&ko s.2.2.2.1 (s,0)
 | uu::rest,(s,i)=>bif !(decide (0≤uu.1)&&decide (uu.1<16))then true else bif !CZ uu.2 then true else bif decide ((↑i:Int)>0)then decide (0≤IntKind.i64.wrap ((↑i:Int)-1))&&decide (IntKind.i64.wrap ((↑i:Int)-1)<(↑(List.length s.2.2.1):Int))&&bif decide (uu.1≤(List.getD s.2.2.1 (IntKind.i64.wrap ((↑i:Int)-1)).toNat (0,0,0,0)).1)then true else kq rest (s,i+1)else kq rest (s,i+1)
theorem HY:∀(rest:List (Int×Int×Int×Int)) (s:ao) (i:Nat) (hd:s.snd.snd.fst.drop i=rest) (hl:s.snd.snd.fst.length≤9223372036854775807),cj (fun f=>kA f (s,((i:Nat):Int))) (kq rest (s,i)) (z6 rest (s,i))
 | [],s,i,hd,hl=>ah (fun f=>(BU f _ _).trans (by simp only[bW (aY hd),cB,aCw,aCu,aCn,aCq,aCx]<;>rfl)) (bC fun hh=>HV _ _ _ rfl (aCE hh))
 | uu::rest,s,i,hd,hl=>ah (fun f=>(BU f _ _).trans (by simp only[bl (ag hd),aI hd,jh (ag hd) hl,aR (ag hd),cB,aCw,aCu,aCn,aCq,aCx]<;>rfl)) (aw ae (aw ae (aw (aE (aw ae (HY rest _ _ (by first | exact aq hd | exact drop_set hd | exact au (drop_set hd)) (by first | exact hl | simpa using hl)))) (HY rest _ _ (by first | exact aq hd | exact drop_set hd | exact au (drop_set hd)) (by first | exact hl | simpa using hl)))))
noncomputable def sz:List (Int×Int×Int×Int×Int×Int×Int×Int×Int×Int×Int×Int×Int×Int×Int×Int×Int×Int×Int×Int×(List (Int×Int×Int))×Int×Int×Int×Int×Int×Int×Bool)→(ao×Nat)→Bool
 | [],(s,i)=>z6 s.2.2.1 (s,0)
 | uu::rest,(s,i)=>bif !kB uu then false else bif decide ((↑i:Int)>0)then bif !cf (((List.getD s.2.1 (IntKind.i64.wrap ((↑i:Int)-1)).toNat zq3).1,(List.getD s.2.1 (IntKind.i64.wrap ((↑i:Int)-1)).toNat zq3).2.1,(List.getD s.2.1 (IntKind.i64.wrap ((↑i:Int)-1)).toNat zq3).2.2.1),uu.1,uu.2.1,uu.2.2.1)then false else sz rest (s,i+1)else sz rest (s,i+1)
noncomputable def kr:List (Int×Int×Int×Int×Int×Int×Int×Int×Int×Int×Int×Int×Int×Int×Int×Int×Int×Int×Int×Int×(List (Int×Int×Int))×Int×Int×Int×Int×Int×Int×Bool)→(ao×Nat)→Bool
 | [],(s,i)=>decide (s.2.2.1.length≤9223372036854775807)&&kq s.2.2.1 (s,0)
 | uu::rest,(s,i)=>bif !kB uu then true else bif decide ((↑i:Int)>0)then decide (0≤IntKind.i64.wrap ((↑i:Int)-1))&&decide (IntKind.i64.wrap ((↑i:Int)-1)<(↑(List.length s.2.1):Int))&&bif !cf (((List.getD s.2.1 (IntKind.i64.wrap ((↑i:Int)-1)).toNat zq3).1,(List.getD s.2.1 (IntKind.i64.wrap ((↑i:Int)-1)).toNat zq3).2.1,(List.getD s.2.1 (IntKind.i64.wrap ((↑i:Int)-1)).toNat zq3).2.2.1),uu.1,uu.2.1,uu.2.2.1)then true else kr rest (s,i+1)else kr rest (s,i+1)
theorem H2:∀(rest:List (Int×Int×Int×Int×Int×Int×Int×Int×Int×Int×Int×Int×Int×Int×Int×Int×Int×Int×Int×Int×(List (Int×Int×Int))×Int×Int×Int×Int×Int×Int×Bool)) (s:ao) (i:Nat) (hd:s.snd.fst.drop i=rest) (hl:s.snd.fst.length≤9223372036854775807),cj (fun f=>nD f (s,((i:Nat):Int))) (kr rest (s,i)) (sz rest (s,i))
 | [],s,i,hd,hl=>ah (fun f=>(BV f _ _).trans (by simp only[bW (aY hd),cB,aCw,aCu,aCn,aCq,aCx]<;>rfl)) (bC fun hh=>HY _ _ _ rfl (aCE hh))
 | uu::rest,s,i,hd,hl=>ah (fun f=>(BV f _ _).trans (by simp only[bl (ag hd),aI hd,jh (ag hd) hl,aR (ag hd),cB,aCw,aCu,aCn,aCq,aCx]<;>rfl)) (aw ae (aw (aE (aw ae (H2 rest _ _ (by first | exact aq hd | exact drop_set hd | exact au (drop_set hd)) (by first | exact hl | simpa using hl)))) (H2 rest _ _ (by first | exact aq hd | exact drop_set hd | exact au (drop_set hd)) (by first | exact hl | simpa using hl))))
noncomputable def rA:ao→Bool
 | s=>bif !pb s.1 then false else bif !Fz true s.2.2.2.2.2 then false else sz s.2.1 (s,0)
noncomputable def acv:ao→Bool
 | s=>decide (List.length s.1≤68719476736)&&bif !pb s.1 then true else decide (List.length s.2.2.2.2.2≤9223372036854775807)&&bif !Fz true s.2.2.2.2.2 then true else decide (s.2.1.length≤9223372036854775807)&&kr s.2.1 (s,0)
theorem Xx:∀a:ao,cj (fun f=>ac4 f a) (acv a) (rA a)
 | s=>ah (fun f=>ac3 f _) (aE (aw ae (aE (aw ae (bC fun hh=>H2 _ _ _ rfl (aCE hh))))))
def EX(a b:ao):Bool:=decide (a.1=b.1)&&(decide (a.2.1=b.2.1)&&(decide (a.2.2.1=b.2.2.1)&&(decide (a.2.2.2.1=b.2.2.2.1)&&(decide (a.2.2.2.2.1=b.2.2.2.2.1)&&decide (a.2.2.2.2.2=b.2.2.2.2.2)))))
noncomputable def amc:cR:=⟨Tryz.prog,[afd,O9,Pc,Ph,Pg,tS],dn [],45,[],[],[],[]⟩
theorem apj:bp Tryz.prog [afd,O9,Pc,Ph,Pg,tS] [] []:=ak afc (ak Wy (ak WB (ak WG (ak WD (ak xD (aD))))))
def aeo:Nat→LD:=ej []
noncomputable def alH(f:Nat)(a:ao×ao):Option (Bool):=(aG (amc) aeo (aQ Tryz.prog [.tmp 4] [.v (.bool)]) f [.code (aC Tryz.f38)] (aV [.g ba,.g ba] a):Option (aA [.v (.bool)]))
theorem adg(f:Nat)(a:ao)(b:ao):alH (f+1) (a,b) =
  bif br a.1 then bif decide (a.1=b.1)then bif fN a.2.1 then bif decide (a.2.1=b.2.1)then bif af a.2.2.1 then bif decide (a.2.2.1=b.2.2.1)then bif af a.2.2.2.1 then bif decide (a.2.2.2.1=b.2.2.2.1)then bif zg a.2.2.2.2.1 then bif decide (a.2.2.2.2.1=b.2.2.2.2.1)then bif af a.2.2.2.2.2 then some (decide (a.2.2.2.2.2=b.2.2.2.2.2))else none else some false else none else some false else none else some false else none else some false else none else some false else none:=by kernel_rfl
noncomputable def aeA:(ao×ao)→Bool
 | (a,b)=>bif decide (a.1=b.1)then bif decide (a.2.1=b.2.1)then bif decide (a.2.2.1=b.2.2.1)then bif decide (a.2.2.2.1=b.2.2.2.1)then bif decide (a.2.2.2.2.1=b.2.2.2.2.1)then decide (a.2.2.2.2.2=b.2.2.2.2.2)else false else false else false else false else false
noncomputable def acx:(ao×ao)→Bool
 | (a,b)=>br a.1&&bif decide (a.1=b.1)then fN a.2.1&&bif decide (a.2.1=b.2.1)then af a.2.2.1&&bif decide (a.2.2.1=b.2.2.1)then af a.2.2.2.1&&bif decide (a.2.2.2.1=b.2.2.2.1)then zg a.2.2.2.2.1&&bif decide (a.2.2.2.2.1=b.2.2.2.2.1)then af a.2.2.2.2.2 else true else true else true else true else true
theorem Yb:∀a:ao×ao,cj (fun f=>alH f a) (acx a) (aeA a)
 | (a,b)=>ah (fun f=>adg f _ _) (aE (aw (aE (aw (aE (aw (aE (aw (aE (aw (dA ae) ae)) ae)) ae)) ae)) ae))
theorem arM:∀a:ao×ao,oR a.1=true→acx a=true:=fun a h=>by
 simp only[oR,aCs]at h;simp only[acx,h.1,h.2.1,h.2.2.1,h.2.2.2.1,h.2.2.2.2.1,h.2.2.2.2.2,aCu];cases decide (a.1.1=a.2.1)<;>cases decide (a.1.2.1=a.2.2.1)<;>cases decide (a.1.2.2.1=a.2.2.2.1)<;>cases decide (a.1.2.2.2.1=a.2.2.2.2.1)<;>cases decide (a.1.2.2.2.2.1=a.2.2.2.2.2.1)<;>rfl
theorem arN:∀a:ao×ao,oR a.1=true→aeA a=EX a.1 a.2:=fun a h=>by
 simp only[aeA,EX];cases decide (a.1.1=a.2.1)<;>cases decide (a.1.2.1=a.2.2.1)<;>cases decide (a.1.2.2.1=a.2.2.2.1)<;>cases decide (a.1.2.2.2.1=a.2.2.2.2.1)<;>cases decide (a.1.2.2.2.2.1=a.2.2.2.2.2.1)<;>rfl
abbrev ag4:=bm Yb arM arN
noncomputable def afa:db:=⟨38,[.g ba,.g ba],[.v (.bool)],fun a=>(fun a=>oR a.1:ao×ao→Bool) a,fun a=>(fun a=>EX a.1 a.2:ao×ao→Bool) a⟩
theorem ae9:afa.Ok Tryz.prog:=eB (C:=amc) (Lt:=aeo) (rs:=[.tmp 4]) mixed apj Tryz.func38 rfl rfl rfl (by kernel_rfl) (by kernel_rfl) ag4
