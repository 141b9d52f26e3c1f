/- By an AI agent. -/
import Derived.Test.YtfggefeflojnkaaGreatEg3
set_option linter.unusedSimpArgs false
set_option linter.unusedVariables false
namespace Go.AL
open Go.Proofs
abbrev aW:List Ty:=[.int .i64,.int .i64,.int .i64,.sl [.int .i64,.int .i64,.int .i64],.int .i64,.int .i64,.int .i64,.int .i64,.int .i64,.int .i64,.bool,.int .i64,.int .i64,.int .i64,.int .i64]
abbrev ax:=Int×Int×Int×(List (Int×Int×Int))×Int×Int×Int×Int×Int×Int×Bool×Int×Int×Int×Int
def jl(s:ax):al:=(s.1,s.2.1,s.2.2.1)
def snd(s:ax):dX:=(s.1,s.2.1,s.2.2.1,s.2.2.2.1,s.2.2.2.2.1,s.2.2.2.2.2.1,s.2.2.2.2.2.2.1,s.2.2.2.2.2.2.2.1,s.2.2.2.2.2.2.2.2.1,s.2.2.2.2.2.2.2.2.2.1,s.2.2.2.2.2.2.2.2.2.2.1)
def sS(s:ax):Int:=s.2.2.2.2.2.2.2.2.2.2.2.1
def kR(s:ax):al:=s.2.2.2.2.2.2.2.2.2.2.2.2
def mkS(n:dX)(op:Int)(lk:al):ax:=(n.1,n.2.1,n.2.2.1,n.2.2.2.1,n.2.2.2.2.1,n.2.2.2.2.2.1,n.2.2.2.2.2.2.1,n.2.2.2.2.2.2.2.1,n.2.2.2.2.2.2.2.2.1,n.2.2.2.2.2.2.2.2.2.1,n.2.2.2.2.2.2.2.2.2.2,op,lk)
instance ayz:DecidableEq ax:=@instDecidableEqProd Int _ _ (@instDecidableEqProd Int _ _ (@instDecidableEqProd Int _ _ (@instDecidableEqProd (List al) _ _ (@instDecidableEqProd Int _ _ (@instDecidableEqProd Int _ _ (@instDecidableEqProd Int _ _ (@instDecidableEqProd Int _ _ (@instDecidableEqProd Int _ _ (@instDecidableEqProd Int _ _ (@instDecidableEqProd Bool _ _ (@instDecidableEqProd Int al _ inferInstance)))))))))))
def br(l:List ax):Bool:=decide (l.length≤68719476736)&&l.all fun s=>af s.2.2.2.1
theorem dt{l:List ax}(h:br l=true):l.length≤68719476736:=by
 simp only[br,aCs,aCy]at h;exact h.1
theorem eL{l:List ax}(h:br l=true){s:ax}(hs:s∈l):af s.2.2.2.1=true:=by
 simp only[br,aCs]at h;exact aCG.1 h.2 s hs
theorem rP{l:List ax}(h1:l.length≤68719476736)(h2:∀s∈l,af s.2.2.2.1=true):br l=true:=by
 simp only[br,aCs,aCy];exact⟨h1,aCG.2 h2⟩
def bJ(s:ax):Bool:=decide (jl s=(0,0,0))
noncomputable def afV:cR:=⟨Tryz.prog,[],dn [],8,[],[],[],[]⟩
theorem ajd:bp Tryz.prog [] [] []:=aD
def Sm:Nat→LD:=ej []
noncomputable def adL(f:Nat)(a:ax):Option (Bool):=(aG (afV) Sm (aQ Tryz.prog [.tmp 2] [.v (.bool)]) f [.code (aC Tryz.f25)] (aV [.g aW] a):Option (aA [.v (.bool)]))
theorem V3(f:Nat)(s:ax):adL (f+1) s =
  some (s.1 == 0&&(s.2.1 == 0&&(s.2.2.1 == 0&&true))):=by kernel_rfl
noncomputable def aeK:ax→Bool
 | s=>s.1 == 0&&(s.2.1 == 0&&(s.2.2.1 == 0&&true))
noncomputable def acJ:ax→Bool
 | s=>true
theorem T8:∀a:ax,cj (fun f=>adL f a) (acJ a) (aeK a)
 | s=>ah (fun f=>V3 f _) ae
theorem anz:∀a,(fun _=>true) a=true→acJ a=true:=fun _ _=>rfl
theorem anA:∀a,(fun _=>true) a=true→aeK a=bJ a:=fun a _=>id_eq (jl a) (0,0,0)
abbrev Zv:=bm T8 anz anA
noncomputable def gN:db:=⟨25,[.g aW],[.v (.bool)],fun a=>(fun _=>true:ax→Bool) a,fun a=>(bJ:ax→Bool) a⟩
theorem jf:gN.Ok Tryz.prog:=eB (C:=afV) (Lt:=Sm) (rs:=[.tmp 2]) mixed ajd Tryz.func25 rfl rfl rfl (by kernel_rfl) (by kernel_rfl) Zv
noncomputable def amh:cR:=⟨Tryz.prog,[],dn [],8,[],[],[],[]⟩
theorem apA:bp Tryz.prog [] [] []:=aD
def aet:Nat→LD:=ej []
noncomputable def alV(f:Nat)(a:ax):Option (Bool):=(aG (amh) aet (aQ Tryz.prog [.tmp 2] [.v (.bool)]) f [.code (aC Tryz.f89)] (aV [.g aW] a):Option (aA [.v (.bool)]))
theorem ad7(f:Nat)(s:ax):alV (f+1) s =
  some (s.1 == 0&&(s.2.1 == 0&&(s.2.2.1 == 0&&true))):=by kernel_rfl
noncomputable def al6:ax→Bool
 | s=>s.1 == 0&&(s.2.1 == 0&&(s.2.2.1 == 0&&true))
noncomputable def alz:ax→Bool
 | s=>true
theorem abB:∀a:ax,cj (fun f=>alV f a) (alz a) (al6 a)
 | s=>ah (fun f=>ad7 f _) ae
theorem atI:∀a,(fun _=>true) a=true→alz a=true:=fun _ _=>rfl
theorem atJ:∀a,(fun _=>true) a=true→al6 a=bJ a:=fun a _=>id_eq (jl a) (0,0,0)
abbrev ajF:=bm abB atI atJ
noncomputable def Cp:db:=⟨89,[.g aW],[.v (.bool)],fun a=>(fun _=>true:ax→Bool) a,fun a=>(bJ:ax→Bool) a⟩
theorem wD:Cp.Ok Tryz.prog:=eB (C:=amh) (Lt:=aet) (rs:=[.tmp 2]) mixed apA Tryz.func89 rfl rfl rfl (by kernel_rfl) (by kernel_rfl) ajF
theorem arR(a b:ax):decide (a=b)=(decide (sS a=sS b)&&(decide (kR a=kR b)&&decide (snd a=snd b))):=by
 rw[aDN];simp only[aCs,aCy];constructor
 ·rintro rfl;exact⟨rfl,rfl,rfl⟩
 ·rintro⟨h1,h2,h3⟩
  obtain⟨a1,a2,a3,a4,a5,a6,a7,a8,a9,a10,a11,a12,a13⟩:=a;obtain⟨b1,b2,b3,b4,b5,b6,b7,b8,b9,b10,b11,b12,b13⟩:=b;simp only[sS,kR,snd,aCH]at h1 h2 h3;simp only[aCH];exact⟨h3.1,h3.2.1,h3.2.2.1,h3.2.2.2.1,h3.2.2.2.2.1,h3.2.2.2.2.2.1,h3.2.2.2.2.2.2.1,h3.2.2.2.2.2.2.2.1,h3.2.2.2.2.2.2.2.2.1,h3.2.2.2.2.2.2.2.2.2.1,h3.2.2.2.2.2.2.2.2.2.2,h1,h2⟩
theorem td{α:Type}[DecidableEq α](F P:List α→List α×List α×Nat→Bool)(C:α→Prop)
  (h0:∀a b k,F [] (a,b,k)=true∧P [] (a,b,k)=true)
  (h1:∀u r a b k v t,C u→b.drop k=v::t→F (u::r) (a,b,k)=(bif !decide (u=v)then false else F r (a,b,k+1))∧(P r (a,b,k+1)=true→P (u::r) (a,b,k)=true)) :
  ∀(r a b t:List α) (k:Nat),(∀u∈r,C u)→b.drop k=t→r.length=t.length→F r (a,b,k)=decide (r=t)∧P r (a,b,k)=true
 | [],a,b,[],k,hC,h,e=>by simp[h0]
 | [],a,b,v::t,k,hC,h,e=>by simp at e
 | u::r,a,b,[],k,hC,h,e=>by simp at e
 | u::r,a,b,v::t,k,hC,h,e=>by
  obtain⟨i1,i2⟩:=td F P C h0 h1 r a b t (k+1) (fun x hx=>hC x (aCQ _ hx)) (aq h) (by simpa using e);obtain⟨j1,j2⟩:=h1 u r a b k v t (hC u (aCK ..)) h;refine⟨?_,j2 i2⟩;rw[j1,i1];by_cases h:u=v
  ·simp[h]
  ·simp[h]
noncomputable def afG:cR:=⟨Tryz.prog,[nL],dn [(6,([(0,[]),(1,[]),(2,[]),(3,[]),(4,[]),(5,[]),(6,[]),(7,[]),(8,[]),(9,[]),(10,[]),(11,[]),(12,[]),(13,[]),(14,[]),(15,[]),(16,[]),(17,[]),(18,[]),(19,[]),(20,[]),(21,[]),(22,[]),(23,[]),(24,[]),(25,[]),(26,[]),(27,[]),(28,[]),(29,[]),(30,[]),(31,[]),(32,[]),(33,[]),(34,[]),(35,[]),(36,[]),(37,[])],[(17,54)]))],55,[],[],[],[]⟩
theorem apl:bp Tryz.prog [nL] [] []:=ak tR (aD)
def GP:Nat→LD:=ej [(0,⟨[.rd 0 aW,.rd 1 aW,.c 5 (.int .i64)],[],0⟩)]
noncomputable def alJ(f:Nat)(a:(List (ax))×(List (ax))):Option (Bool):=(aG (afG) GP (aQ Tryz.prog [.tmp 4] [.v (.bool)]) f [.code (aC Tryz.f28)] (aV [.rd aW,.rd aW] a):Option (aA [.v (.bool)]))
noncomputable def vS(f:Nat)(x:(List (ax))×(List (ax))×Int):Option (Bool):=(aG (afG) GP (aQ Tryz.prog [.tmp 4] [.v (.bool)]) f (aK Tryz.f28 0) ((GP 0).mk' x):Option (aA [.v (.bool)]))
theorem adi(f:Nat)(a:List (ax))(b:List (ax)):alJ (f+1) (a,b) =
  bif(↑a.length:Int) != (↑b.length:Int)then some false else vS f (a,b,0):=by kernel_rfl
theorem BZ(f:Nat)(a:List (ax))(b:List (ax))(i:Int):vS (f+1) (a,b,i) =
  bif decide (i<(↑a.length:Int))then bif decide (0≤i)&&decide (i<(↑a.length:Int))then bif decide (0≤i)&&decide (i<(↑b.length:Int))then bif(a.getD i.toNat zq2).2.2.2.2.2.2.2.2.2.2.2.1 != (b.getD i.toNat zq2).2.2.2.2.2.2.2.2.2.2.2.1 then some false else bif decide (0≤i)&&decide (i<(↑a.length:Int))then bif decide (0≤i)&&decide (i<(↑b.length:Int))then bif !((a.getD i.toNat zq2).2.2.2.2.2.2.2.2.2.2.2.2.1 == (b.getD i.toNat zq2).2.2.2.2.2.2.2.2.2.2.2.2.1&&((a.getD i.toNat zq2).2.2.2.2.2.2.2.2.2.2.2.2.2.1 == (b.getD i.toNat zq2).2.2.2.2.2.2.2.2.2.2.2.2.2.1&&((a.getD i.toNat zq2).2.2.2.2.2.2.2.2.2.2.2.2.2.2 == (b.getD i.toNat zq2).2.2.2.2.2.2.2.2.2.2.2.2.2.2&&true)))then some false else bif decide (0≤i)&&decide (i<(↑a.length:Int))then bif decide (0≤i)&&decide (i<(↑b.length:Int))then bif af (a.getD i.toNat zq2).2.2.2.1 then bif !decide (((a.getD i.toNat zq2).1,(a.getD i.toNat zq2).2.1,(a.getD i.toNat zq2).2.2.1,(a.getD i.toNat zq2).2.2.2.1,(a.getD i.toNat zq2).2.2.2.2.1,(a.getD i.toNat zq2).2.2.2.2.2.1,(a.getD i.toNat zq2).2.2.2.2.2.2.1,(a.getD i.toNat zq2).2.2.2.2.2.2.2.1,(a.getD i.toNat zq2).2.2.2.2.2.2.2.2.1,(a.getD i.toNat zq2).2.2.2.2.2.2.2.2.2.1,(a.getD i.toNat zq2).2.2.2.2.2.2.2.2.2.2.1)=((b.getD i.toNat zq2).1,(b.getD i.toNat zq2).2.1,(b.getD i.toNat zq2).2.2.1,(b.getD i.toNat zq2).2.2.2.1,(b.getD i.toNat zq2).2.2.2.2.1,(b.getD i.toNat zq2).2.2.2.2.2.1,(b.getD i.toNat zq2).2.2.2.2.2.2.1,(b.getD i.toNat zq2).2.2.2.2.2.2.2.1,(b.getD i.toNat zq2).2.2.2.2.2.2.2.2.1,(b.getD i.toNat zq2).2.2.2.2.2.2.2.2.2.1,(b.getD i.toNat zq2).2.2.2.2.2.2.2.2.2.2.1))then some false else vS f (a,b,IntKind.i64.wrap (i+1))else none else none else none else none else none else none else none else some true:=by kernel_rfl
noncomputable def nH:List (ax)→((List (ax))×(List (ax))×Nat)→Bool
 | [],(a,b,i)=>true
 | uu::rest,(a,b,i)=>bif uu.2.2.2.2.2.2.2.2.2.2.2.1 != (b.getD (↑i:Int).toNat zq2).2.2.2.2.2.2.2.2.2.2.2.1 then false else bif !(uu.2.2.2.2.2.2.2.2.2.2.2.2.1 == (b.getD (↑i:Int).toNat zq2).2.2.2.2.2.2.2.2.2.2.2.2.1&&(uu.2.2.2.2.2.2.2.2.2.2.2.2.2.1 == (b.getD (↑i:Int).toNat zq2).2.2.2.2.2.2.2.2.2.2.2.2.2.1&&(uu.2.2.2.2.2.2.2.2.2.2.2.2.2.2 == (b.getD (↑i:Int).toNat zq2).2.2.2.2.2.2.2.2.2.2.2.2.2.2&&true)))then false else bif !decide ((uu.1,uu.2.1,uu.2.2.1,uu.2.2.2.1,uu.2.2.2.2.1,uu.2.2.2.2.2.1,uu.2.2.2.2.2.2.1,uu.2.2.2.2.2.2.2.1,uu.2.2.2.2.2.2.2.2.1,uu.2.2.2.2.2.2.2.2.2.1,uu.2.2.2.2.2.2.2.2.2.2.1)=((b.getD (↑i:Int).toNat zq2).1,(b.getD (↑i:Int).toNat zq2).2.1,(b.getD (↑i:Int).toNat zq2).2.2.1,(b.getD (↑i:Int).toNat zq2).2.2.2.1,(b.getD (↑i:Int).toNat zq2).2.2.2.2.1,(b.getD (↑i:Int).toNat zq2).2.2.2.2.2.1,(b.getD (↑i:Int).toNat zq2).2.2.2.2.2.2.1,(b.getD (↑i:Int).toNat zq2).2.2.2.2.2.2.2.1,(b.getD (↑i:Int).toNat zq2).2.2.2.2.2.2.2.2.1,(b.getD (↑i:Int).toNat zq2).2.2.2.2.2.2.2.2.2.1,(b.getD (↑i:Int).toNat zq2).2.2.2.2.2.2.2.2.2.2.1))then false else nH rest (a,b,i+1)
noncomputable def se:List (ax)→((List (ax))×(List (ax))×Nat)→Bool
 | [],(a,b,i)=>true
 | uu::rest,(a,b,i)=>decide ((↑i:Int)<(↑b.length:Int))&&bif uu.2.2.2.2.2.2.2.2.2.2.2.1 != (b.getD (↑i:Int).toNat zq2).2.2.2.2.2.2.2.2.2.2.2.1 then true else decide ((↑i:Int)<(↑b.length:Int))&&bif !(uu.2.2.2.2.2.2.2.2.2.2.2.2.1 == (b.getD (↑i:Int).toNat zq2).2.2.2.2.2.2.2.2.2.2.2.2.1&&(uu.2.2.2.2.2.2.2.2.2.2.2.2.2.1 == (b.getD (↑i:Int).toNat zq2).2.2.2.2.2.2.2.2.2.2.2.2.2.1&&(uu.2.2.2.2.2.2.2.2.2.2.2.2.2.2 == (b.getD (↑i:Int).toNat zq2).2.2.2.2.2.2.2.2.2.2.2.2.2.2&&true)))then true else decide ((↑i:Int)<(↑b.length:Int))&&(af uu.2.2.2.1&&bif !decide ((uu.1,uu.2.1,uu.2.2.1,uu.2.2.2.1,uu.2.2.2.2.1,uu.2.2.2.2.2.1,uu.2.2.2.2.2.2.1,uu.2.2.2.2.2.2.2.1,uu.2.2.2.2.2.2.2.2.1,uu.2.2.2.2.2.2.2.2.2.1,uu.2.2.2.2.2.2.2.2.2.2.1)=((b.getD (↑i:Int).toNat zq2).1,(b.getD (↑i:Int).toNat zq2).2.1,(b.getD (↑i:Int).toNat zq2).2.2.1,(b.getD (↑i:Int).toNat zq2).2.2.2.1,(b.getD (↑i:Int).toNat zq2).2.2.2.2.1,(b.getD (↑i:Int).toNat zq2).2.2.2.2.2.1,(b.getD (↑i:Int).toNat zq2).2.2.2.2.2.2.1,(b.getD (↑i:Int).toNat zq2).2.2.2.2.2.2.2.1,(b.getD (↑i:Int).toNat zq2).2.2.2.2.2.2.2.2.1,(b.getD (↑i:Int).toNat zq2).2.2.2.2.2.2.2.2.2.1,(b.getD (↑i:Int).toNat zq2).2.2.2.2.2.2.2.2.2.2.1))then true else se rest (a,b,i+1))
theorem S9:∀(rest:List (ax)) (a:List (ax)) (b:List (ax)) (i:Nat) (hd:a.drop i=rest) (hl:a.length≤1099511627776),cj (fun f=>vS f (a,b,((i:Nat):Int))) (se rest (a,b,i)) (nH rest (a,b,i))
 | [],a,b,i,hd,hl=>ah (fun f=>(BZ f _ _ _).trans (by simp only[bW (aY hd),cB,aCw,aCu,aCn,aCq,aCx]<;>rfl)) ae
 | uu::rest,a,b,i,hd,hl=>ah (fun f=>(BZ f _ _ _).trans (by simp only[bl (ag hd),aI hd,aM (ag hd) hl,aR (ag hd),cB,aCw,aCu,aCn,aCq,aCx]<;>rfl)) (aE (aw ae (aE (aw ae (aE (aE (aw ae (S9 rest _ _ _ (by first | exact aq hd | exact drop_set hd | exact au (drop_set hd)) (by first | exact hl | simpa using hl)))))))))
noncomputable def aeB:((List (ax))×(List (ax)))→Bool
 | (a,b)=>bif(↑a.length:Int) != (↑b.length:Int)then false else nH a (a,b,0)
noncomputable def acy:((List (ax))×(List (ax)))→Bool
 | (a,b)=>bif(↑a.length:Int) != (↑b.length:Int)then true else decide (a.length≤1099511627776)&&se a (a,b,0)
theorem Yc:∀a:(List (ax))×(List (ax)),cj (fun f=>alJ f a) (acy a) (aeB a)
 | (a,b)=>ah (fun f=>adi f _ _) (aw ae (bC fun hh=>S9 _ _ _ _ rfl (aCE hh)))
theorem akt:∀(r a b t:List ax) (k:Nat),(∀u∈r,af u.2.2.2.1=true)→b.drop k=t→r.length=t.length→nH r (a,b,k)=decide (r=t)∧se r (a,b,k)=true:=by
 refine td nH se (fun u=>af u.2.2.2.1=true) (fun _ _ _=>⟨rfl,rfl⟩) fun u r a b k v t hu h=>?_
 simp only[nH,se,aI h,bl (ag h),hu,aCu,Gm];constructor
 ·show(bif !decide (sS u=sS v)then false else bif !((kR u).1 == (kR v).1&&((kR u).2.1 == (kR v).2.1&&((kR u).2.2 == (kR v).2.2&&true)))then false else bif !decide (snd u=snd v)then false else nH r (a,b,k+1))=_
  rw[id_eq,arR u v];cases decide (sS u=sS v)<;>cases decide (kR u=kR v)<;>cases decide (snd u=snd v)<;>rfl
 ·intro h;rw[h];exact zq (zq (zq rfl))
theorem arO:∀a:List ax×List ax,br a.1=true→acy a=true:=fun a h=>by
 simp only[acy,fI];by_cases e:a.1.length=a.2.length
 ·rw[(akt a.1 a.1 a.2 a.2 0 (fun u hu=>eL h hu) rfl e).2];simp[e];rw[← e];have:=dt h;omega
 ·simp[e]
theorem arP:∀a:List ax×List ax,br a.1=true→aeB a=decide (a.1=a.2):=fun a h=>by
 simp only[aeB,fI];by_cases e:a.1.length=a.2.length
 ·rw[(akt a.1 a.1 a.2 a.2 0 (fun u hu=>eL h hu) rfl e).1];simp[e]
 ·have:¬ a.1=a.2:=fun h=>e (by rw[h])
  simp[e,this]
abbrev ag7:=bm Yc arO arP
noncomputable def afd:db:=⟨28,[.rd aW,.rd aW],[.v (.bool)],fun a=>(fun a=>br a.1:(List (ax))×(List (ax))→Bool) a,fun a=>(fun a=>decide (a.1=a.2):(List (ax))×(List (ax))→Bool) a⟩
theorem afc:afd.Ok Tryz.prog:=eB (C:=afG) (Lt:=GP) (rs:=[.tmp 4]) mixed apl Tryz.func28 rfl rfl rfl (by kernel_rfl) (by kernel_rfl) ag7
noncomputable def af5:cR:=⟨Tryz.prog,[iX],dn [(5,([(0,[]),(1,[]),(2,[]),(3,[]),(4,[]),(5,[]),(7,[]),(8,[]),(9,[]),(10,[]),(11,[]),(12,[]),(13,[]),(14,[]),(15,[]),(16,[]),(6,[]),(17,[]),(18,[]),(19,[]),(20,[])],[(3,3),(11,30)]))],32,[],[],[],[]⟩
theorem apB:bp Tryz.prog [iX] [] []:=ak nR (aD)
def GW:Nat→LD:=ej [(0,⟨[.rd 0 aW,.list 3 999 64 15 aW,.c 4 (.int .i64)],[],0⟩)]
noncomputable def alW(f:Nat)(a:(List (ax))):Option ((List (ax))):=(aG (af5) GW (aQ Tryz.prog [.tmp 2] [.o 64 15 aW]) f [.code (aC Tryz.f51)] (aV [.rd aW] a):Option (aA [.o 64 15 aW]))
noncomputable def wg(f:Nat)(x:(List (ax))×(List (ax))×Int):Option ((List (ax))):=(aG (af5) GW (aQ Tryz.prog [.tmp 2] [.o 64 15 aW]) f (aK Tryz.f51 0) ((GW 0).mk' x):Option (aA [.o 64 15 aW]))
theorem ad8(f:Nat)(l:List (ax)):alW (f+1) l =
  wg f (l,[],0):=by kernel_rfl
theorem B8(f:Nat)(l:List (ax))(out:List (ax))(i:Int):wg (f+1) (l,out,i) =
  bif decide (i<(↑l.length:Int))then bif decide (0≤i)&&decide (i<(↑l.length:Int))then bif decide (0≤i)&&decide (i<(↑l.length:Int))then bif decide (0≤i)&&decide (i<(↑l.length:Int))then bif af (l.getD i.toNat zq2).2.2.2.1 then bif decide ((out.length+[((l.getD i.toNat zq2).1,(l.getD i.toNat zq2).2.1,(l.getD i.toNat zq2).2.2.1,(l.getD i.toNat zq2).2.2.2.1,(l.getD i.toNat zq2).2.2.2.2.1,(l.getD i.toNat zq2).2.2.2.2.2.1,(l.getD i.toNat zq2).2.2.2.2.2.2.1,(l.getD i.toNat zq2).2.2.2.2.2.2.2.1,(l.getD i.toNat zq2).2.2.2.2.2.2.2.2.1,(l.getD i.toNat zq2).2.2.2.2.2.2.2.2.2.1,(l.getD i.toNat zq2).2.2.2.2.2.2.2.2.2.2.1,(l.getD i.toNat zq2).2.2.2.2.2.2.2.2.2.2.2)].length)*136≤140737488355328)then wg f (l,out++[l.getD i.toNat zq2],IntKind.i64.wrap (i+1))else none else none else none else none else none else some out:=by kernel_rfl
noncomputable def sB:List (ax)→((List (ax))×(List (ax))×Nat)→(List (ax))
 | [],(l,out,i)=>out
 | uu::rest,(l,out,i)=>sB rest (l,out++[uu],i+1)
noncomputable def vI:List (ax)→((List (ax))×(List (ax))×Nat)→Bool
 | [],(l,out,i)=>true
 | uu::rest,(l,out,i)=>af uu.2.2.2.1&&(decide ((out.length+1)*136≤140737488355328)&&vI rest (l,out++[uu],i+1))
theorem Tg:∀(rest:List (ax)) (l:List (ax)) (out:List (ax)) (i:Nat) (hd:l.drop i=rest) (hl:l.length≤1099511627776),cj (fun f=>wg f (l,out,((i:Nat):Int))) (vI rest (l,out,i)) (sB rest (l,out,i))
 | [],l,out,i,hd,hl=>ah (fun f=>(B8 f _ _ _).trans (by simp only[bW (aY hd),cB,aCw,aCu,aCn,aCq,aCx]<;>rfl)) ae
 | uu::rest,l,out,i,hd,hl=>ah (fun f=>(B8 f _ _ _).trans (by simp only[bl (ag hd),aI hd,aM (ag hd) hl,aR (ag hd),cB,aCw,aCu,aCn,aCq,aCx]<;>rfl)) (aE (aE (Tg rest _ _ _ (by first | exact aq hd | exact drop_set hd | exact au (drop_set hd)) (by first | exact hl | simpa using hl))))
noncomputable def aeT:(List (ax))→(List (ax))
 | l=>sB l (l,[],0)
noncomputable def acU:(List (ax))→Bool
 | l=>decide (l.length≤1099511627776)&&vI l (l,[],0)
theorem abN:∀a:(List (ax)),cj (fun f=>alW f a) (acU a) (aeT a)
 | l=>ah (fun f=>ad8 f _) (bC fun hh=>Tg _ _ _ _ rfl (aCE hh))
theorem abO(l:List ax):∀(r:List ax) (out:List ax) (k:Nat),(∀e∈r,af e.2.2.2.1=true)→out.length+r.length≤68719476736→sB r (l,out,k)=out++r∧vI r (l,out,k)=true
 | [],out,k,h,hl=>⟨by simp[sB],rfl⟩
 | u::r,out,k,h,hl=>by
  obtain⟨i1,i2⟩:=abO l r (out++[u]) (k+1) (fun e he=>h e (aCQ _ he)) (by simp at hl ⊢;omega);have h1:=h u (aCK ..);simp only[sB,vI,i1,i2,h1];exact⟨by simp,by simp at hl ⊢;omega⟩
theorem atO:∀a,br a=true→acU a=true:=fun a h=>by
 have:=dt h;simp only[acU,(abO a a [] 0 (fun e he=>eL h he) (by simpa using this)).2,aCT];exact aCm (by omega)
theorem atP:∀a,br a=true→aeT a=a:=fun a h=>by
 simp only[aeT,(abO a a [] 0 (fun e he=>eL h he) (by simpa using dt h)).1,aC1]
abbrev ajL:=bm abN atO atP
noncomputable def wF:db:=⟨51,[.rd aW],[.o 64 15 aW],fun a=>(br:(List (ax))→Bool) a,fun a=>(fun a=>a:(List (ax))→(List (ax))) a⟩
theorem wE:wF.Ok Tryz.prog:=eB (C:=af5) (Lt:=GW) (rs:=[.tmp 2]) mixed apB Tryz.func51 rfl rfl rfl (by kernel_rfl) (by kernel_rfl) ajL
noncomputable def PZ:cR:=⟨Tryz.prog,[],dn [],18,[],[],[],[]⟩
theorem ajq:bp Tryz.prog [] [] []:=aD
def zM:Nat→LD:=ej [(0,⟨[.rd 0 [.int .i64],.c 1 (.int .i64),.c 5 (.int .i64)],[],0⟩)]
noncomputable def ad3(f:Nat)(a:(List (Int))×Int):Option (Bool):=(aG (PZ) zM (aQ Tryz.prog [.tmp 4] [.v (.bool)]) f [.code (aC Tryz.f16)] (aV [.rd [.int .i64],.c (.int .i64)] a):Option (aA [.v (.bool)]))
noncomputable def rn(f:Nat)(x:(List (Int))×Int×Int):Option (Bool):=(aG (PZ) zM (aQ Tryz.prog [.tmp 4] [.v (.bool)]) f (aK Tryz.f16 0) ((zM 0).mk' x):Option (aA [.v (.bool)]))
theorem Wg(f:Nat)(l:List (Int))(n:Int):ad3 (f+1) (l,n) =
  rn f (l,n,0):=by kernel_rfl
theorem yH(f:Nat)(l:List (Int))(n:Int)(i:Int):rn (f+1) (l,n,i) =
  bif decide (i<(↑l.length:Int))then bif decide (0≤i)&&decide (i<(↑l.length:Int))then bif l.getD i.toNat 0 == n then some true else rn f (l,n,IntKind.i64.wrap (i+1))else none else some false:=by kernel_rfl
noncomputable def rE:List (Int)→((List (Int))×Int×Nat)→Bool
 | [],(l,n,i)=>false
 | uu::rest,(l,n,i)=>bif uu == n then true else rE rest (l,n,i+1)
noncomputable def qB:List (Int)→((List (Int))×Int×Nat)→Bool
 | [],(l,n,i)=>true
 | uu::rest,(l,n,i)=>bif uu == n then true else qB rest (l,n,i+1)
theorem Mn:∀(rest:List (Int)) (l:List (Int)) (n:Int) (i:Nat) (hd:l.drop i=rest) (hl:l.length≤1099511627776),cj (fun f=>rn f (l,n,((i:Nat):Int))) (qB rest (l,n,i)) (rE rest (l,n,i))
 | [],l,n,i,hd,hl=>ah (fun f=>(yH f _ _ _).trans (by simp only[bW (aY hd),cB,aCw,aCu,aCn,aCq,aCx]<;>rfl)) ae
 | uu::rest,l,n,i,hd,hl=>ah (fun f=>(yH f _ _ _).trans (by simp only[bl (ag hd),aI hd,aM (ag hd) hl,aR (ag hd),cB,aCw,aCu,aCn,aCq,aCx]<;>rfl)) (aw ae (Mn rest _ _ _ (by first | exact aq hd | exact drop_set hd | exact au (drop_set hd)) (by first | exact hl | simpa using hl)))
noncomputable def O2:((List (Int))×Int)→Bool
 | (l,n)=>rE l (l,n,0)
noncomputable def Ow:((List (Int))×Int)→Bool
 | (l,n)=>decide (l.length≤1099511627776)&&qB l (l,n,0)
theorem UK:∀a:(List (Int))×Int,cj (fun f=>ad3 f a) (Ow a) (O2 a)
 | (l,n)=>ah (fun f=>Wg f _ _) (bC fun hh=>Mn _ _ _ _ rfl (aCE hh))
theorem NJ(n:Int):∀(rest l:List Int) (k:Nat),rE rest (l,n,k)=cT n rest∧qB rest (l,n,k)=true
 | [],l,k=>⟨rfl,rfl⟩
 | u::r,l,k=>by
  obtain⟨i1,i2⟩:=NJ n r l (k+1);simp only[rE,qB,i1,i2,wZ,BH];exact⟨by cases decide (u=n)<;>rfl,by cases decide (u=n)<;>rfl⟩
theorem aoM:∀a:List Int×Int,af a.1=true→Ow a=true:=fun a h=>by simp only[Ow,(NJ a.2 a.1 a.1 0).2,aCT];exact h
theorem aoN:∀a:List Int×Int,af a.1=true→O2 a=cT a.2 a.1:=fun a h=>by simp only[O2,(NJ a.2 a.1 a.1 0).1]
abbrev aaX:=bm UK aoM aoN
noncomputable def Co:db:=⟨16,[.rd [.int .i64],.c (.int .i64)],[.v (.bool)],fun a=>(fun a=>af a.1:(List (Int))×Int→Bool) a,fun a=>(fun a=>cT a.2 a.1:(List (Int))×Int→Bool) a⟩
theorem EE:Co.Ok Tryz.prog:=eB (C:=PZ) (Lt:=zM) (rs:=[.tmp 4]) mixed ajq Tryz.func16 rfl rfl rfl (by kernel_rfl) (by kernel_rfl) aaX
noncomputable def S0:cR:=⟨Tryz.prog,[],dn [],8,[],[],[],[]⟩
theorem NW:bp Tryz.prog []:=aD
theorem aua(l:List (ax)):(aG S0 (fun _=>⟨[],[],0⟩) (aQ Tryz.prog [.tmp 2] [.o 64 15 aW]) 1 [.code (aC Tryz.f124)] (aV [.rd aW] l):Option (aA [.o 64 15 aW]))=bif Decidable.decide (0<l.length)&&Bool.true then bif Decidable.decide ((([]:List Nat).length+l.length)*(bytesOf Tryz.prog 64)≤140737488355328)then some l else none else none:=by kernel_rfl
noncomputable def afh:db:=⟨124,[.rd aW],[.o 64 15 aW],fun a=>xd (a:List (ax)),fun a=>(a:List (ax))⟩
theorem afg:afh.Ok Tryz.prog:=fun a hp vs hv=>Bx (τ:=aW) (t:=64) (es:=15)
  (fun a h0 h1 vs hv=>iB (C:=S0) (Lt:=fun _=>⟨[],[],0⟩) (fn:=Tryz.f124) (rs:=[.tmp 2]) [.rd aW] [.o 64 15 aW] mixed NW Tryz.func124 rfl rfl rfl (by kernel_rfl) (by kernel_rfl) 1 ((aua a).trans (xY h0 h1 (by decide +kernel))) vs hv)
  (iB (C:=S0) (Lt:=fun _=>⟨[],[],0⟩) (fn:=Tryz.f124) (rs:=[.tmp 2]) (a:=()) [.raw (.slice none 0 0)] [.o 64 15 aW] mixed NW Tryz.func124 rfl rfl rfl (by kernel_rfl) (by kernel_rfl) 1 (by kernel_rfl) _ (by simp only[cE,et,j4];exact⟨_,rfl,rfl⟩))
  (fun b c=>iB (C:=S0) (Lt:=fun _=>⟨[],[],0⟩) (fn:=Tryz.f124) (rs:=[.tmp 2]) (a:=()) [.raw (.slice (some b) 0 c)] [.o 64 15 aW] mixed NW Tryz.func124 rfl rfl rfl (by kernel_rfl) (by kernel_rfl) 1 (by kernel_rfl) _ (by simp only[cE,et,j4];exact⟨_,rfl,rfl⟩))
  a (aCE hp) vs hv
noncomputable def aga:cR:=⟨Tryz.prog,[afh,tU],dn [],24,[],[],[],[]⟩
theorem apE:bp Tryz.prog [afh,tU] [] []:=ak afg (ak xE (aD))
def GZ:Nat→LD:=ej [(0,⟨[.list 3 999 64 15 aW,.c 8 (.int .i64),.c 9 (.int .i64)],[],0⟩)]
noncomputable def alZ(f:Nat)(a:(List (ax))):Option ((List (ax))):=(aG (aga) GZ (aQ Tryz.prog [.tmp 2] [.o 64 15 aW]) f [.code (aC Tryz.f87)] (aV [.rd aW] a):Option (aA [.o 64 15 aW]))
noncomputable def wj(f:Nat)(x:(List (ax))×Int×Int):Option ((List (ax))):=(aG (aga) GZ (aQ Tryz.prog [.tmp 2] [.o 64 15 aW]) f (aK Tryz.f87 0) ((GZ 0).mk' x):Option (aA [.o 64 15 aW]))
theorem aed(f:Nat)(l:List (ax)):alZ (f+1) l =
  bif xd l then wj f (l,(↑l.length:Int),0)else none:=by kernel_rfl
theorem Cb(f:Nat)(out:List (ax))(x8:Int)(x9:Int):wj (f+1) (out,x8,x9) =
  bif decide (x9<x8)then bif decide (0≤x9)&&decide (x9<(↑out.length:Int))then bif af (out.getD x9.toNat zq2).2.2.2.1 then bif decide (0≤x9)&&decide (x9<(↑out.length:Int))then wj f (out.set x9.toNat (out.getD x9.toNat zq2),x8,IntKind.i64.wrap (x9+1))else none else none else none else some out:=by kernel_rfl
noncomputable def wA:List (ax)→((List (ax))×Int×Nat)→(List (ax))
 | [],(out,x8,x9)=>out
 | uu::rest,(out,x8,x9)=>wA rest (out.set (↑x9:Int).toNat uu,x8,x9+1)
noncomputable def vK:List (ax)→((List (ax))×Int×Nat)→Bool
 | [],(out,x8,x9)=>true
 | uu::rest,(out,x8,x9)=>af uu.2.2.2.1&&vK rest (out.set (↑x9:Int).toNat uu,x8,x9+1)
theorem Ti:∀(rest:List (ax)) (out:List (ax)) (x8:Int) (x9:Nat) (hd:out.drop x9=rest) (hn:x8=((out.length:Nat):Int)) (hl:out.length≤1099511627776),cj (fun f=>wj f (out,x8,((x9:Nat):Int))) (vK rest (out,x8,x9)) (wA rest (out,x8,x9))
 | [],out,x8,x9,hd,hn,hl=>ah (fun f=>(Cb f _ _ _).trans (by simp only[iR hn (aY hd),cB,aCw,aCu,aCn,aCq,aCx]<;>rfl)) ae
 | uu::rest,out,x8,x9,hd,hn,hl=>ah (fun f=>(Cb f _ _ _).trans (by simp only[iO hn (ag hd),bl (ag hd),aI hd,aM (ag hd) hl,aR (ag hd),cB,aCw,aCu,aCn,aCq,aCx]<;>rfl)) (aE (Ti rest _ _ _ (by first | exact aq hd | exact drop_set hd | exact au (drop_set hd)) (by first | exact hn | simpa using hn) (by first | exact hl | simpa using hl)))
noncomputable def aeW:(List (ax))→(List (ax))
 | l=>wA l (l,(↑l.length:Int),0)
noncomputable def acY:(List (ax))→Bool
 | l=>xd l&&(decide (l.length≤1099511627776)&&vK l (l,(↑l.length:Int),0))
theorem abV:∀a:(List (ax)),cj (fun f=>alZ f a) (acY a) (aeW a)
 | l=>ah (fun f=>aed f _) (aE (bC fun hh=>Ti _ _ _ _ rfl (by first | rfl | simp) (aCE hh)))
theorem gS{α:Type}{l r:List α}{u v:α}{k:Nat}(h:l.drop k=u::r):(l.set (Int.toNat ((k:Nat):Int)) v).take (k+1)=l.take k++[v]∧(l.set (Int.toNat ((k:Nat):Int)) v).drop (k+1)=r:=by
 refine⟨?_,drop_set h⟩;have hl:=ag h;rw[aC8,aDn,aD4 hl,aES (by omega)];rfl
theorem oL{α:Type}{l r:List α}{u:α}{k:Nat}(h:l.drop k=u::r):l.set (Int.toNat ((k:Nat):Int)) u=l:=by
 rw[aC8];apply List.ext_getElem?;intro i;by_cases hi:k=i
 ·subst hi;rw[aD4 (ag h),rV h]
 ·rw[aEu hi]
theorem abW(n:Int):∀(r:List ax) (out:List ax) (k:Nat),out.drop k=r→(∀e∈r,af e.2.2.2.1=true)→wA r (out,n,k)=out∧vK r (out,n,k)=true
 | [],out,k,h,hl=>⟨rfl,rfl⟩
 | u::r,out,k,h,hl=>by
  obtain⟨i1,i2⟩:=abW n r out (k+1) (aq h) (fun e he=>hl e (aCQ _ he));simp only[wA,vK,oL h,i1,i2,hl u (aCK ..)];exact⟨trivial,rfl⟩
theorem atU:∀a,br a=true→acY a=true:=fun a h=>by
 have:=dt h;simp only[acY,(abW _ a a 0 rfl (fun e he=>eL h he)).2,aCT,aCs];exact⟨aCm (by omega),aCm (by omega)⟩
theorem atV:∀a,br a=true→aeW a=a:=fun a h=>by
 simp only[aeW,(abW _ a a 0 rfl (fun e he=>eL h he)).1]
abbrev ajP:=bm abV atU atV
noncomputable def L5:db:=⟨87,[.rd aW],[.o 64 15 aW],fun a=>(br:(List (ax))→Bool) a,fun a=>(fun a=>a:(List (ax))→(List (ax))) a⟩
theorem Cq:L5.Ok Tryz.prog:=eB (C:=aga) (Lt:=GZ) (rs:=[.tmp 2]) mixed apE Tryz.func87 rfl rfl rfl (by kernel_rfl) (by kernel_rfl) ajP
theorem AX{α:Type}(G:List α→List α→Nat→List α)(f:α→α)(h0:∀out k,G [] out k=out)
  (h1:∀u r out k,out.drop k=u::r→G (u::r) out k=G r (out.set (Int.toNat ((k:Nat):Int)) (f u)) (k+1)) :
  ∀(r out:List α) (k:Nat),out.drop k=r→G r out k=out.take k++r.map f
 | [],out,k,h=>by rw[h0,aDR,aCM,aDz (by have:=aY h;omega)]
 | u::r,out,k,h=>by
  obtain⟨s1,s2⟩:=gS (v:=f u) h;rw[h1 u r out k h,AX G f h0 h1 r _ (k+1) s2,s1];simp
theorem BL{α:Type}(P:List α→List α→Nat→Bool)(f:α→α)(h0:∀out k,P [] out k=true)
  (h1:∀u r out k,out.drop k=u::r→P (u::r) out k=P r (out.set (Int.toNat ((k:Nat):Int)) (f u)) (k+1)) :
  ∀(r out:List α) (k:Nat),out.drop k=r→P r out k=true
 | [],out,k,h=>h0 _ _
 | u::r,out,k,h=>by rw[h1 u r out k h];exact BL P f h0 h1 r _ (k+1) (gS h).2
theorem amU(u:ax)(id:al):(u.1 == id.1&&(u.2.1 == id.2.1&&(u.2.2.1 == id.2.2&&true)))=decide (jl u=id):=id_eq (jl u) id
theorem Yt(u:ax)(id:al):(u.2.2.2.2.2.2.2.2.2.2.2.2.1 == id.1&&(u.2.2.2.2.2.2.2.2.2.2.2.2.2.1 == id.2.1&&(u.2.2.2.2.2.2.2.2.2.2.2.2.2.2 == id.2.2&&true)))=decide (kR u=id):=id_eq (kR u) id
theorem NA(id:al):(id.1 == 0&&(id.2.1 == 0&&(id.2.2 == 0&&true)))=decide (id=(0,0,0)):=id_eq id (0,0,0)
def dJ(id:al)(s:ax):Bool:=!bJ s&&decide (jl s=id)
noncomputable def PV:cR:=⟨Tryz.prog,[gN],dn [(4,([(0,[]),(1,[]),(2,[]),(3,[]),(4,[]),(5,[]),(6,[]),(7,[]),(8,[]),(9,[]),(10,[]),(11,[]),(12,[]),(13,[]),(14,[]),(15,[])],[(12,27)]))],29,[],[],[],[]⟩
theorem aja:bp Tryz.prog [gN] [] []:=ak jf (aD)
def zI:Nat→LD:=ej [(0,⟨[.rd 0 aW,.box 3 3 48 3 aH,.c 5 (.int .i64)],[],0⟩)]
noncomputable def adI(f:Nat)(a:(List (ax))×al):Option (Int):=(aG (PV) zI (aQ Tryz.prog [.tmp 4] [.v (.int .i64)]) f [.code (aC Tryz.f79)] (aV [.rd aW,.g aH] a):Option (aA [.v (.int .i64)]))
noncomputable def jO(f:Nat)(x:(List (ax))×al×Int):Option (Int):=(aG (PV) zI (aQ Tryz.prog [.tmp 4] [.v (.int .i64)]) f (aK Tryz.f79 0) ((zI 0).mk' x):Option (aA [.v (.int .i64)]))
theorem V0(f:Nat)(l:List (ax))(id:al):adI (f+1) (l,id) =
  jO f (l,id,0):=by kernel_rfl
theorem yz(f:Nat)(l:List (ax))(id:al)(i:Int):jO (f+1) (l,id,i) =
  bif decide (i<(↑l.length:Int))then bif decide (0≤i)&&decide (i<(↑l.length:Int))then bif !bJ (l.getD i.toNat zq2)then bif decide (0≤i)&&decide (i<(↑l.length:Int))then bif(l.getD i.toNat zq2).1 == id.1&&((l.getD i.toNat zq2).2.1 == id.2.1&&((l.getD i.toNat zq2).2.2.1 == id.2.2&&true))then some i else jO f (l,id,IntKind.i64.wrap (i+1))else none else jO f (l,id,IntKind.i64.wrap (i+1))else none else some (-1):=by kernel_rfl
noncomputable def mz:List (ax)→((List (ax))×al×Nat)→Int
 | [],(l,id,i)=>-1
 | uu::rest,(l,id,i)=>bif !bJ uu then bif uu.1 == id.1&&(uu.2.1 == id.2.1&&(uu.2.2.1 == id.2.2&&true))then(↑i:Int)else mz rest (l,id,i+1)else mz rest (l,id,i+1)
noncomputable def l4:List (ax)→((List (ax))×al×Nat)→Bool
 | [],(l,id,i)=>true
 | uu::rest,(l,id,i)=>bif !bJ uu then bif uu.1 == id.1&&(uu.2.1 == id.2.1&&(uu.2.2.1 == id.2.2&&true))then true else l4 rest (l,id,i+1)else l4 rest (l,id,i+1)
theorem Cz:∀(rest:List (ax)) (l:List (ax)) (id:al) (i:Nat) (hd:l.drop i=rest) (hl:l.length≤1099511627776),cj (fun f=>jO f (l,id,((i:Nat):Int))) (l4 rest (l,id,i)) (mz rest (l,id,i))
 | [],l,id,i,hd,hl=>ah (fun f=>(yz f _ _ _).trans (by simp only[bW (aY hd),cB,aCw,aCu,aCn,aCq,aCx]<;>rfl)) ae
 | uu::rest,l,id,i,hd,hl=>ah (fun f=>(yz f _ _ _).trans (by simp only[bl (ag hd),aI hd,aM (ag hd) hl,aR (ag hd),cB,aCw,aCu,aCn,aCq,aCx]<;>rfl)) (aw (aw ae (Cz rest _ _ _ (by first | exact aq hd | exact drop_set hd | exact au (drop_set hd)) (by first | exact hl | simpa using hl))) (Cz rest _ _ _ (by first | exact aq hd | exact drop_set hd | exact au (drop_set hd)) (by first | exact hl | simpa using hl)))
noncomputable def OW:((List (ax))×al)→Int
 | (l,id)=>mz l (l,id,0)
noncomputable def Oq:((List (ax))×al)→Bool
 | (l,id)=>decide (l.length≤1099511627776)&&l4 l (l,id,0)
theorem T3:∀a:(List (ax))×al,cj (fun f=>adI f a) (Oq a) (OW a)
 | (l,id)=>ah (fun f=>V0 f _ _) (bC fun hh=>Cz _ _ _ _ rfl (aCE hh))
theorem M5(l:List ax)(id:al):∀(r:List ax) (k:Nat),mz r (l,id,k)=aL (dJ id) r k∧l4 r (l,id,k)=true
 | [],k=>⟨rfl,rfl⟩
 | u::r,k=>by
  obtain⟨i1,i2⟩:=M5 l id r (k+1);simp only[mz,l4,aL,dJ,amU,i1,i2];constructor<;>(cases bJ u<;>cases decide (jl u=id)<;>rfl)
theorem ant:∀a:List ax×al,af a.1=true→Oq a=true:=fun a h=>by simp only[Oq,(M5 _ _ _ _).2,aCT];exact h
theorem anu:∀a:List ax×al,af a.1=true→OW a=aL (dJ a.2) a.1 0:=fun a h=>by simp only[OW,(M5 _ _ _ _).1];rfl
abbrev Zg:=bm T3 ant anu
noncomputable def Cg:db:=⟨79,[.rd aW,.g aH],[.v (.int .i64)],fun a=>(fun a=>af a.1:(List (ax))×al→Bool) a,fun a=>(fun a=>aL (dJ a.2) a.1 0:(List (ax))×al→Int) a⟩
theorem Ey:Cg.Ok Tryz.prog:=eB (C:=PV) (Lt:=zI) (rs:=[.tmp 4]) mixed aja Tryz.func79 rfl rfl rfl (by kernel_rfl) (by kernel_rfl) Zg
def arT(s:ax)(op:Int):ax:=mkS (snd s) op (kR s)
noncomputable def PT:cR:=⟨Tryz.prog,[wF],dn [],27,[],[],[],[]⟩
theorem ai5:bp Tryz.prog [wF] [] []:=ak wE (aD)
def zG:Nat→LD:=ej [(0,⟨[.c 1 (.int .i64),.list 5 999 64 15 aW,.c 6 (.int .i64)],[],0⟩)]
noncomputable def adA(f:Nat)(a:(List (ax))×Int):Option ((List (ax))):=(aG (PT) zG (aQ Tryz.prog [.tmp 4] [.o 64 15 aW]) f [.code (aC Tryz.f108)] (aV [.rd aW,.c (.int .i64)] a):Option (aA [.o 64 15 aW]))
noncomputable def jM(f:Nat)(x:Int×(List (ax))×Int):Option ((List (ax))):=(aG (PT) zG (aQ Tryz.prog [.tmp 4] [.o 64 15 aW]) f (aK Tryz.f108 0) ((zG 0).mk' x):Option (aA [.o 64 15 aW]))
theorem VV(f:Nat)(l:List (ax))(op:Int):adA (f+1) (l,op) =
  bif br l then jM f (op,l,0)else none:=by kernel_rfl
theorem yu(f:Nat)(op:Int)(out:List (ax))(i:Int):jM (f+1) (op,out,i) =
  bif decide (i<(↑out.length:Int))then bif decide (0≤i)&&decide (i<(↑out.length:Int))then bif(out.getD i.toNat zq2).2.2.2.2.2.2.2.2.2.2.2.1 == op then bif decide (0≤i)&&decide (i<(↑out.length:Int))then jM f (op,out.set i.toNat ((out.getD i.toNat zq2).1,(out.getD i.toNat zq2).2.1,(out.getD i.toNat zq2).2.2.1,(out.getD i.toNat zq2).2.2.2.1,(out.getD i.toNat zq2).2.2.2.2.1,(out.getD i.toNat zq2).2.2.2.2.2.1,(out.getD i.toNat zq2).2.2.2.2.2.2.1,(out.getD i.toNat zq2).2.2.2.2.2.2.2.1,(out.getD i.toNat zq2).2.2.2.2.2.2.2.2.1,(out.getD i.toNat zq2).2.2.2.2.2.2.2.2.2.1,(out.getD i.toNat zq2).2.2.2.2.2.2.2.2.2.2.1,0,(out.getD i.toNat zq2).2.2.2.2.2.2.2.2.2.2.2.2),IntKind.i64.wrap (i+1))else none else jM f (op,out,IntKind.i64.wrap (i+1))else none else some out:=by kernel_rfl
noncomputable def iq:List (ax)→(Int×(List (ax))×Nat)→(List (ax))
 | [],(op,out,i)=>out
 | uu::rest,(op,out,i)=>bif uu.2.2.2.2.2.2.2.2.2.2.2.1 == op then iq rest (op,out.set (↑i:Int).toNat (uu.1,uu.2.1,uu.2.2.1,uu.2.2.2.1,uu.2.2.2.2.1,uu.2.2.2.2.2.1,uu.2.2.2.2.2.2.1,uu.2.2.2.2.2.2.2.1,uu.2.2.2.2.2.2.2.2.1,uu.2.2.2.2.2.2.2.2.2.1,uu.2.2.2.2.2.2.2.2.2.2.1,0,uu.2.2.2.2.2.2.2.2.2.2.2.2),i+1)else iq rest (op,out,i+1)
noncomputable def ij:List (ax)→(Int×(List (ax))×Nat)→Bool
 | [],(op,out,i)=>true
 | uu::rest,(op,out,i)=>bif uu.2.2.2.2.2.2.2.2.2.2.2.1 == op then ij rest (op,out.set (↑i:Int).toNat (uu.1,uu.2.1,uu.2.2.1,uu.2.2.2.1,uu.2.2.2.2.1,uu.2.2.2.2.2.1,uu.2.2.2.2.2.2.1,uu.2.2.2.2.2.2.2.1,uu.2.2.2.2.2.2.2.2.1,uu.2.2.2.2.2.2.2.2.2.1,uu.2.2.2.2.2.2.2.2.2.2.1,0,uu.2.2.2.2.2.2.2.2.2.2.2.2),i+1)else ij rest (op,out,i+1)
theorem Cx:∀(rest:List (ax)) (op:Int) (out:List (ax)) (i:Nat) (hd:out.drop i=rest) (hl:out.length≤1099511627776),cj (fun f=>jM f (op,out,((i:Nat):Int))) (ij rest (op,out,i)) (iq rest (op,out,i))
 | [],op,out,i,hd,hl=>ah (fun f=>(yu f _ _ _).trans (by simp only[bW (aY hd),cB,aCw,aCu,aCn,aCq,aCx]<;>rfl)) ae
 | uu::rest,op,out,i,hd,hl=>ah (fun f=>(yu f _ _ _).trans (by simp only[bl (ag hd),aI hd,aM (ag hd) hl,aR (ag hd),cB,aCw,aCu,aCn,aCq,aCx]<;>rfl)) (aw (Cx rest _ _ _ (by first | exact aq hd | exact drop_set hd | exact au (drop_set hd)) (by first | exact hl | simpa using hl)) (Cx rest _ _ _ (by first | exact aq hd | exact drop_set hd | exact au (drop_set hd)) (by first | exact hl | simpa using hl)))
noncomputable def aeG:((List (ax))×Int)→(List (ax))
 | (l,op)=>iq l (op,l,0)
noncomputable def Oo:((List (ax))×Int)→Bool
 | (l,op)=>br l&&(decide (l.length≤1099511627776)&&ij l (op,l,0))
theorem TW:∀a:(List (ax))×Int,cj (fun f=>adA f a) (Oo a) (aeG a)
 | (l,op)=>ah (fun f=>VV f _ _) (aE (bC fun hh=>Cx _ _ _ _ rfl (aCE hh)))
def iM(op:Int)(s:ax):ax:=bif decide (sS s=op)then arT s 0 else s
def gH(a:List ax×Int):List ax:=a.1.map (iM a.2)
theorem YT(op:Int)(u:ax)(r out:List ax)(k:Nat)(h:out.drop k=u::r):iq (u::r) (op,out,k)=iq r (op,out.set (Int.toNat ((k:Nat):Int)) (iM op u),k+1)∧ij (u::r) (op,out,k)=ij r (op,out.set (Int.toNat ((k:Nat):Int)) (iM op u),k+1):=by
 simp only[iq,ij,iM,BH];have e:decide (u.2.2.2.2.2.2.2.2.2.2.2.1=op)=decide (sS u=op):=rfl;rw[e];cases decide (sS u=op)
 ·simp only[aCq,oL h];exact⟨trivial,trivial⟩
 ·exact⟨rfl,rfl⟩
theorem anh:∀a:List ax×Int,br a.1=true→Oo a=true:=fun a h=>by
 have:=dt h;simp only[Oo,h,BL (fun r out k=>ij r (a.2,out,k)) (iM a.2) (fun _ _=>rfl) (fun u r out k h=>(YT a.2 u r out k h).2) a.1 a.1 0 rfl,aCT,aCu];exact aCm (by omega)
theorem ani:∀a:List ax×Int,br a.1=true→aeG a=gH a:=fun a h=>AX (fun r out k=>iq r (a.2,out,k)) (iM a.2) (fun _ _=>rfl) (fun u r out k h=>(YT a.2 u r out k h).1) a.1 a.1 0 rfl
abbrev YS:=bm TW anh ani
noncomputable def Pp:db:=⟨108,[.rd aW,.c (.int .i64)],[.o 64 15 aW],fun a=>(fun a=>br a.1:(List (ax))×Int→Bool) a,fun a=>(gH:(List (ax))×Int→(List (ax))) a⟩
theorem WL:Pp.Ok Tryz.prog:=eB (C:=PT) (Lt:=zG) (rs:=[.tmp 4]) mixed ai5 Tryz.func108 rfl rfl rfl (by kernel_rfl) (by kernel_rfl) YS
noncomputable def afW:cR:=⟨Tryz.prog,[L5],dn [],27,[],[],[],[]⟩
theorem apr:bp Tryz.prog [L5] [] []:=ak Cq (aD)
def GU:Nat→LD:=ej [(0,⟨[.c 1 (.int .i64),.list 5 999 64 15 aW,.c 10 (.int .i64),.c 11 (.int .i64)],[],0⟩)]
noncomputable def alO(f:Nat)(a:(List (ax))×Int):Option ((List (ax))):=(aG (afW) GU (aQ Tryz.prog [.tmp 4] [.o 64 15 aW]) f [.code (aC Tryz.f91)] (aV [.rd aW,.c (.int .i64)] a):Option (aA [.o 64 15 aW]))
noncomputable def nG(f:Nat)(x:Int×(List (ax))×Int×Int):Option ((List (ax))):=(aG (afW) GU (aQ Tryz.prog [.tmp 4] [.o 64 15 aW]) f (aK Tryz.f91 0) ((GU 0).mk' x):Option (aA [.o 64 15 aW]))
theorem adM(f:Nat)(l:List (ax))(op:Int):alO (f+1) (l,op) =
  bif br l then nG f (op,l,(↑l.length:Int),0)else none:=by kernel_rfl
theorem B2(f:Nat)(op:Int)(out:List (ax))(dh:Int)(j6:Int):nG (f+1) (op,out,dh,j6) =
  bif decide (j6<dh)then bif decide (0≤j6)&&decide (j6<(↑out.length:Int))then bif(out.getD j6.toNat zq2).2.2.2.2.2.2.2.2.2.2.2.1 == op then bif decide (0≤j6)&&decide (j6<(↑out.length:Int))then nG f (op,out.set j6.toNat ((out.getD j6.toNat zq2).1,(out.getD j6.toNat zq2).2.1,(out.getD j6.toNat zq2).2.2.1,(out.getD j6.toNat zq2).2.2.2.1,(out.getD j6.toNat zq2).2.2.2.2.1,(out.getD j6.toNat zq2).2.2.2.2.2.1,(out.getD j6.toNat zq2).2.2.2.2.2.2.1,(out.getD j6.toNat zq2).2.2.2.2.2.2.2.1,(out.getD j6.toNat zq2).2.2.2.2.2.2.2.2.1,(out.getD j6.toNat zq2).2.2.2.2.2.2.2.2.2.1,(out.getD j6.toNat zq2).2.2.2.2.2.2.2.2.2.2.1,0,(out.getD j6.toNat zq2).2.2.2.2.2.2.2.2.2.2.2.2),dh,IntKind.i64.wrap (j6+1))else none else nG f (op,out,dh,IntKind.i64.wrap (j6+1))else none else some out:=by kernel_rfl
noncomputable def kD:List (ax)→(Int×(List (ax))×Int×Nat)→(List (ax))
 | [],(op,out,dh,j6)=>out
 | uu::rest,(op,out,dh,j6)=>bif uu.2.2.2.2.2.2.2.2.2.2.2.1 == op then kD rest (op,out.set (↑j6:Int).toNat (uu.1,uu.2.1,uu.2.2.1,uu.2.2.2.1,uu.2.2.2.2.1,uu.2.2.2.2.2.1,uu.2.2.2.2.2.2.1,uu.2.2.2.2.2.2.2.1,uu.2.2.2.2.2.2.2.2.1,uu.2.2.2.2.2.2.2.2.2.1,uu.2.2.2.2.2.2.2.2.2.2.1,0,uu.2.2.2.2.2.2.2.2.2.2.2.2),dh,j6+1)else kD rest (op,out,dh,j6+1)
noncomputable def kt:List (ax)→(Int×(List (ax))×Int×Nat)→Bool
 | [],(op,out,dh,j6)=>true
 | uu::rest,(op,out,dh,j6)=>bif uu.2.2.2.2.2.2.2.2.2.2.2.1 == op then kt rest (op,out.set (↑j6:Int).toNat (uu.1,uu.2.1,uu.2.2.1,uu.2.2.2.1,uu.2.2.2.2.1,uu.2.2.2.2.2.1,uu.2.2.2.2.2.2.1,uu.2.2.2.2.2.2.2.1,uu.2.2.2.2.2.2.2.2.1,uu.2.2.2.2.2.2.2.2.2.1,uu.2.2.2.2.2.2.2.2.2.2.1,0,uu.2.2.2.2.2.2.2.2.2.2.2.2),dh,j6+1)else kt rest (op,out,dh,j6+1)
theorem H3:∀(rest:List (ax)) (op:Int) (out:List (ax)) (dh:Int) (j6:Nat) (hd:out.drop j6=rest) (hn:dh=((out.length:Nat):Int)) (hl:out.length≤1099511627776),cj (fun f=>nG f (op,out,dh,((j6:Nat):Int))) (kt rest (op,out,dh,j6)) (kD rest (op,out,dh,j6))
 | [],op,out,dh,j6,hd,hn,hl=>ah (fun f=>(B2 f _ _ _ _).trans (by simp only[iR hn (aY hd),cB,aCw,aCu,aCn,aCq,aCx]<;>rfl)) ae
 | uu::rest,op,out,dh,j6,hd,hn,hl=>ah (fun f=>(B2 f _ _ _ _).trans (by simp only[iO hn (ag hd),bl (ag hd),aI hd,aM (ag hd) hl,aR (ag hd),cB,aCw,aCu,aCn,aCq,aCx]<;>rfl)) (aw (H3 rest _ _ _ _ (by first | exact aq hd | exact drop_set hd | exact au (drop_set hd)) (by first | exact hn | simpa using hn) (by first | exact hl | simpa using hl)) (H3 rest _ _ _ _ (by first | exact aq hd | exact drop_set hd | exact au (drop_set hd)) (by first | exact hn | simpa using hn) (by first | exact hl | simpa using hl)))
noncomputable def al5:((List (ax))×Int)→(List (ax))
 | (l,op)=>kD l (op,l,(↑l.length:Int),0)
noncomputable def acK:((List (ax))×Int)→Bool
 | (l,op)=>br l&&(decide (l.length≤1099511627776)&&kt l (op,l,(↑l.length:Int),0))
theorem Zw:∀a:(List (ax))×Int,cj (fun f=>alO f a) (acK a) (al5 a)
 | (l,op)=>ah (fun f=>adM f _ _) (aE (bC fun hh=>H3 _ _ _ _ _ rfl (by first | rfl | simp) (aCE hh)))
theorem akB(op n:Int)(u:ax)(r out:List ax)(k:Nat)(h:out.drop k=u::r):kD (u::r) (op,out,n,k)=kD r (op,out.set (Int.toNat ((k:Nat):Int)) (iM op u),n,k+1)∧kt (u::r) (op,out,n,k)=kt r (op,out.set (Int.toNat ((k:Nat):Int)) (iM op u),n,k+1):=by
 simp only[kD,kt,iM,BH];have e:decide (u.2.2.2.2.2.2.2.2.2.2.2.1=op)=decide (sS u=op):=rfl;rw[e];cases decide (sS u=op)
 ·simp only[aCq,oL h];exact⟨trivial,trivial⟩
 ·exact⟨rfl,rfl⟩
theorem ar6:∀a:List ax×Int,br a.1=true→acK a=true:=fun a h=>by
 have:=dt h;simp only[acK,h,BL (fun r out k=>kt r (a.2,out,((a.1.length:Nat):Int),k)) (iM a.2) (fun _ _=>rfl) (fun u r out k h=>(akB a.2 _ u r out k h).2) a.1 a.1 0 rfl,aCT,aCu];exact aCm (by omega)
theorem ar7:∀a:List ax×Int,br a.1=true→al5 a=gH a:=fun a h=>AX (fun r out k=>kD r (a.2,out,((a.1.length:Nat):Int),k)) (iM a.2) (fun _ _=>rfl) (fun u r out k h=>(akB a.2 _ u r out k h).1) a.1 a.1 0 rfl
abbrev ahA:=bm Zw ar6 ar7
noncomputable def aun:db:=⟨91,[.rd aW,.c (.int .i64)],[.o 64 15 aW],fun a=>(fun a=>br a.1:(List (ax))×Int→Bool) a,fun a=>(gH:(List (ax))×Int→(List (ax))) a⟩
theorem afn:aun.Ok Tryz.prog:=eB (C:=afW) (Lt:=GU) (rs:=[.tmp 4]) mixed apr Tryz.func91 rfl rfl rfl (by kernel_rfl) (by kernel_rfl) ahA
