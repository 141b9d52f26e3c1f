/- AI. -/
import Derived.Test.YtfggefeflojnkaaGreatEm2
import Derived.Test.YtfggefeflojnkaaGreatZr
set_option linter.unusedSimpArgs false
set_option linter.unusedVariables false
set_option linter.unusedSectionVars false
open Go.IntKind (i64 u64)
namespace Go.AL
open Go.Proofs
noncomputable def LQ:cX:=⟨Tryz.prog,[al5],dE [],63,[Sb,OA],[],[],[]⟩
theorem amx:jh Tryz.prog [al5] [Sb,OA] []:=gu adB (gu Vq (ah wj (aC)))
def qu:Nat→LD:=sY 1 [(0,⟨[.list 0 500 69 13 aF,.c 1 (zI),.fn 2 62 [],.c 6 (zI),.c 7 (zI),.c 8 (zI)],[],1⟩),(2,⟨[.list 0 500 69 13 aF,.c 1 (zI),.fn 2 62 [],.c 6 (zI)],[],1⟩),(4,⟨[.list 0 500 69 13 aF,.c 1 (zI),.fn 2 62 [],.c 6 (zI),.c 7 (zI),.c 8 (zI)],[],1⟩)]
noncomputable def ai2(f:Nat)(a:(List ag)×Int×Unit):Option (Unit×(List ag)):=aG LQ qu (cO Tryz.prog 69 13 aF [] []) f [.code (aB Tryz.f97)] (dR false 69 13 aF [.c zI,.fn 62 []] a.1 [] (a.2.1,a.2.2))
noncomputable def An(f:Nat)(x:(List ag)×Int×Unit×Int×Int×Int):Option (Unit×(List ag)):=aG LQ qu (cO Tryz.prog 69 13 aF [] []) f (aV Tryz.f97 0) ((qu 0).mk' x)
noncomputable def nh(f:Nat)(x:(List ag)×Int×Unit×Int):Option (Unit×(List ag)):=aG LQ qu (cO Tryz.prog 69 13 aF [] []) f (aV Tryz.f97 2) ((qu 2).mk' x)
noncomputable def Am(f:Nat)(x:(List ag)×Int×Unit×Int×Int×Int):Option (Unit×(List ag)):=aG LQ qu (cO Tryz.prog 69 13 aF [] []) f (aV Tryz.f97 4) ((qu 4).mk' x)
theorem abj(f:Nat)(data:List ag)(n:Int)(cmp:Unit):ai2 (f+1) (data,n,cmp) =
  An f (data,n,(),20,0,20):=by kernel_rfl
theorem tq(f:Nat)(data:List ag)(n:Int)(cmp:Unit)(aM a b:Int):An (f+1) (data,n,cmp,aM,a,b) =
  bif decide (b≤n)then bif gB data a b then An f ((sZ (data,a,b,())).2,n,(),aM,b,i64.wrap (b+aM))else none else bif gB data a n then nh f ((sZ (data,a,n,())).2,n,(),aM)else none:=by kernel_rfl
theorem tp(f:Nat)(data:List ag)(n:Int)(cmp:Unit)(aM:Int):nh (f+1) (data,n,cmp,aM) =
  bif decide (aM<n)then Am f (data,n,(),aM,0,i64.wrap (2*aM))else some ((),data):=by kernel_rfl
theorem ng(f:Nat)(data:List ag)(n:Int)(cmp:Unit)(aM a b:Int):Am (f+1) (data,n,cmp,aM,a,b) =
  bif decide (b≤n)then bif sG (data,a,i64.wrap (a+aM),b,())then Am f ((Dn (data,a,i64.wrap (a+aM),b,())).2,n,(),aM,b,i64.wrap (b+i64.wrap (2*aM)))else none else bif decide (i64.wrap (a+aM)<n)then bif sG (data,a,i64.wrap (a+aM),n,())then nh f ((Dn (data,a,i64.wrap (a+aM),n,())).2,n,(),i64.wrap (aM*2))else none else nh f (data,n,(),i64.wrap (aM*2)):=by kernel_rfl
theorem aoM{K:Unit×List ag}{bs:Nat}(hb:0<bs)(nC:bs≤1099511627776){n:Int}:∀(k:Nat) (r P:List ag) (a b:Int),r.length≤k→a=(P.length:Nat)→b=a+((2*bs:Nat):Int)→n=((P.length+r.length:Nat):Int)→P.length+r.length≤1099511627776→
  (∃f,nh f (P++lK (2*bs) r,n,(),((2*bs:Nat):Int))=some K)→∃f,Am f (P++lK bs r,n,(),((bs:Nat):Int),a,b)=some K:=by
 intro k;induction k with
 | zero=>
  intro r P a b hk ha hbb hn hl hK;obtain rfl:=aAf (Nat.le_zero.1 hk);obtain⟨f,hf⟩:=hK;simp only[az2]at hn;refine⟨f+1,(ng f _ _ _ _ _ _).trans ?_⟩;have w1:i64.wrap (a+((bs:Nat):Int))=a+(bs:Nat):=az (by omega) (by omega);have w2:i64.wrap (((bs:Nat):Int)*2)=((2*bs:Nat):Int):=by grind[az]
  rw[azK (by omega),w1,azK (by omega),w2];grind[Cz]
 | succ k ih=>
  intro r P a b hk ha hbb hn hl hK;have w1:i64.wrap (a+((bs:Nat):Int))=a+(bs:Nat):=az (by omega) (by omega);have w2:i64.wrap (((bs:Nat):Int)*2)=((2*bs:Nat):Int):=by grind[az]
  have w3:i64.wrap (2*((bs:Nat):Int))=((2*bs:Nat):Int):=by grind
  have w4:i64.wrap (b+((2*bs:Nat):Int))=b+((2*bs:Nat):Int):=az (by omega) (by omega);by_cases hbn:b≤n
  ·have t2:(r.take (2*bs))=r.take bs++(r.drop bs).take bs:=by rw[show 2*bs=bs+bs by omega,List.take_add]
   have wU:(r.take bs).length=bs:=by rw[az5];omega
   have Db:((r.drop bs).take bs).length=bs:=by rw[az5,aAe];omega
   have d2:(r.drop bs).drop bs=r.drop (2*bs):=by rw[aBE];congr 1;omega
   have e1:lK bs r=ca cj (r.take bs)++(ca cj ((r.drop bs).take bs)++lK bs (r.drop (2*bs))):=by
    rw[gP hb (by omega),gP hb (l:=r.drop bs) (by rw[aAe];omega),d2]
   have e2:lK (2*bs) r=ca cj (r.take (2*bs))++lK (2*bs) (r.drop (2*bs)):=gP (by omega) (by omega);have hm:=JY gE (r.take bs) ((r.drop bs).take bs);rw[← t2]at hm;obtain⟨f,hf⟩:=ih (r.drop (2*bs)) (P++ca cj (r.take (2*bs))) b (b+((2*bs:Nat):Int)) (by rw[aAe];omega) (by rw[azG,bh,az5];omega) rfl (by rw[azG,bh,az5,aAe];omega) (by rw[azG,bh,az5,aAe];omega) (by grind);refine⟨f+1,(ng f _ _ _ _ _ _).trans ?_⟩;have q1:a+((bs:Nat):Int)=((P.length+(ca cj (r.take bs)).length:Nat):Int):=by rw[bh,wU];omega
   have q2:b=((P.length+(ca cj (r.take bs)).length+(ca cj ((r.drop bs).take bs)).length:Nat):Int):=by grind[bh]
   have hp:=AQ (c:=()) (y:=lK bs (r.drop (2*bs))) ha q1 q2 (jy gE _) (jy gE _) (by rw[bh];omega) (by rw[bh];omega) (by simp only[azG,bh,Ka hb _ _ (azJ _),wU,Db,aAe];omega);have hd:=kN (c:=()) (y:=lK bs (r.drop (2*bs))) ha q1 q2;simp_all
  ·by_cases hbm:a+((bs:Nat):Int)<n
   ·have hr:0<r.length:=by omega
    have wU:(r.take bs).length=bs:=by rw[az5];omega
    have e1:lK bs r=ca cj (r.take bs)++(ca cj (r.drop bs)++[]):=by
     rw[gP hb hr,jT hb (l:=r.drop bs) (by rw[aAe];omega),aAc]
    have e2:lK (2*bs) r=ca cj r:=jT (by omega) (by omega);have hm:=JY gE (r.take bs) (r.drop bs);rw[aAT]at hm;obtain⟨f,hf⟩:=hK;refine⟨f+1,(ng f _ _ _ _ _ _).trans ?_⟩;have q1:a+((bs:Nat):Int)=((P.length+(ca cj (r.take bs)).length:Nat):Int):=by rw[bh,wU];omega
    have q2:n=((P.length+(ca cj (r.take bs)).length+(ca cj (r.drop bs)).length:Nat):Int):=by rw[bh,bh,wU,aAe];omega
    have hp:=AQ (c:=()) (y:=[]) ha q1 q2 (jy gE _) (jy gE _) (by rw[bh];omega) (by rw[bh,aAe];omega) (by simp only[azG,bh,wU,aAe,az2];omega);have hd:=kN (c:=()) (y:=[]) ha q1 q2;grind
   ·obtain⟨f,hf⟩:=hK
    refine⟨f+1,(ng f _ _ _ _ _ _).trans ?_⟩;rw[azK hbn,w1,azK hbm,w2];grind[jT]
theorem ahJ(l:List ag)(hl:l.length≤1099511627776):∀(k bs:Nat),l.length-bs≤k→0<bs→bs≤2199023255552→∃f,nh f (lK bs l,((l.length:Nat):Int),(),((bs:Nat):Int))=some ((),ca cj l)
 | 0,bs,hk,hb,nC=>⟨1,(tp 0 _ _ _ _).trans (by rw[azK (by omega),jT hb (by omega)];rfl)⟩
 | k+1,bs,hk,hb,nC=>by
  by_cases h:((bs:Nat):Int)<((l.length:Nat):Int)
  ·obtain⟨f,hf⟩:=aoM (n:=((l.length:Nat):Int)) hb (by omega) l.length l [] 0 (((2*bs:Nat):Int)) (azJ _) rfl (by omega) (by simp) (by simpa using hl) (by simpa using ahJ l hl k (2*bs) (by omega) (by omega) (by omega))
   refine⟨f+1,(tp f _ _ _ _).trans ?_⟩;have w3:i64.wrap (2*((bs:Nat):Int))=((2*bs:Nat):Int):=by grind[az]
   grind
  ·exact⟨1,(tp 0 _ _ _ _).trans (by rw[azK h,jT hb (by omega)];rfl)⟩
theorem aoN{K:Unit×List ag}{n:Int}:∀(k:Nat) (r P:List ag) (a b:Int),r.length≤k→a=(P.length:Nat)→b=a+20→n=((P.length+r.length:Nat):Int)→P.length+r.length≤1099511627776→
  (∃f,nh f (P++lK 20 r,n,(),20)=some K)→∃f,An f (P++r,n,(),20,a,b)=some K:=by
 intro k;induction k with
 | zero=>
  intro r P a b hk ha hbb hn hl ⟨f,hf⟩;obtain rfl:=aAf (Nat.le_zero.1 hk);simp only[az2]at hn;have hi:=iq (x:=P) (s:=[]) (y:=[]) (a:=a) (b:=n) (u:=()) ha (by simpa using hn);refine⟨f+1,(tq f _ _ _ _ _ _).trans ?_⟩;have e:P++[]=P++([]++([]:List ag)):=by simp
  have hg:gB (P++([]++([]:List ag))) a n=true:=eY.2 ⟨by omega,by omega,by simp;omega,by simp;omega⟩;rw[azK (by omega),e,hi,hg];rw[Cz]at hf;exact hf
 | succ k ih=>
  intro r P a b hk ha hbb hn hl hK;by_cases hbn:b≤n
  ·have e2:lK 20 r=ca cj (r.take 20)++lK 20 (r.drop 20):=gP (by omega) (by omega)
   have wU:(r.take 20).length=20:=by rw[az5];omega
   obtain⟨f,hf⟩:=ih (r.drop 20) (P++ca cj (r.take 20)) b (b+20) (by rw[aAe];omega) (by rw[azG,bh,wU];omega) rfl (by rw[azG,bh,wU,aAe];omega) (by rw[azG,bh,wU,aAe];omega) (by grind);have hi:=iq (x:=P) (s:=r.take 20) (y:=r.drop 20) (a:=a) (b:=b) (u:=()) ha (by rw[wU];omega);refine⟨f+1,(tq f _ _ _ _ _ _).trans ?_⟩;have w4:i64.wrap (b+20)=b+20:=az (by omega) (by omega);rw[aAT]at hi;have hg:gB (P++r) a b=true:=eY.2 ⟨by omega,by omega,by rw[azG];omega,by rw[azG];omega⟩;grind
  ·obtain⟨f,hf⟩:=hK
   have hi:=iq (x:=P) (s:=r) (y:=[]) (a:=a) (b:=n) (u:=()) ha hn;refine⟨f+1,(tq f _ _ _ _ _ _).trans ?_⟩;rw[aAc,aAc]at hi;have hg:gB (P++r) a n=true:=eY.2 ⟨by omega,by omega,by rw[azG];omega,by rw[azG];omega⟩;rw[azK hbn,hg,hi];grind[jT]
theorem ae1:∀a,SJ a=true→∃f,ai2 f a=some (WW a):=by
 rintro⟨l,n,u⟩ h;simp only[SJ,azF,azM]at h;obtain⟨rfl,hl⟩:=h;obtain⟨f,hf⟩:=aoN (K:=((),ca cj l)) (n:=((l.length:Nat):Int)) l.length l [] 0 20 (azJ _) rfl rfl (by simp) (by simpa using hl) (by simpa using ahJ l hl l.length 20 (by omega) (by omega) (by omega));exact⟨f+1,(abj f _ _ _).trans hf⟩
theorem ae2:∀a,SJ a=true→(WW a).2.length=a.1.length:=fun a _=>bh _
noncomputable def RU:dW:=⟨97,false,false,69,13,aF,[.c zI,.fn 62 []],[],fun l l2 a=>(SJ:(List ag)×Int×Unit→Bool) (l,a.1,a.2),fun l l2 a=>(WW:(List ag)×Int×Unit→Unit×(List ag)) (l,a.1,a.2)⟩
theorem ac5:RU.Ok Tryz.prog:=fJ (C:=LQ) (Lt:=qu) (fn:=Tryz.f97) (rs:=[]) RU Tryz.prog rfl rfl rfl mixed amx ⟨rfl,rfl⟩ (fq (by decide +kernel)) Tryz.func97 rfl rfl rfl (by decide) (by kernel_rfl) (by kernel_rfl) (by decide) fun l a hp=>⟨ae2 (l,a.1,a.2) hp,ae1 (l,a.1,a.2) hp⟩
noncomputable def ajN:cX:=⟨Tryz.prog,[al5],dE [],9,[RU],[],[],[]⟩
theorem amz:jh Tryz.prog [al5] [RU] []:=gu ac5 (ah wj (aC))
def acn:Nat→LD:=sY 1 []
noncomputable def ai4(f:Nat)(a:(List ag)×Unit):Option (Unit×(List ag)):=aG ajN acn (cO Tryz.prog 69 13 aF [] []) f [.code (aB Tryz.f61)] (dR false 69 13 aF [.fn 62 []] a.1 [] a.2)
theorem abm(f:Nat)(x:List ag)(cmp:Unit):ai4 (f+1) (x,cmp) =
  bif SJ (x,(↑x.length:Int),())then some ((),(WW (x,(↑x.length:Int),())).2)else none:=by kernel_rfl
theorem ae7:∀a,(fun a:List ag×Unit=>af a.1) a=true→∃f,ai4 f a=some (afb a):=by
 rintro⟨l,u⟩ h;have h:l.length≤1099511627776:=azZ h;refine⟨1,(abm 0 _ _).trans ?_⟩;simp only[SJ,WW,azC h];simp[afb]
theorem ae8:∀a,(fun a:List ag×Unit=>af a.1) a=true→(afb a).2.length=a.1.length:=fun a _=>bh _
noncomputable def ajD:dW:=⟨61,false,false,69,13,aF,[.fn 62 []],[],fun l l2 a=>(fun a=>af a.1:(List ag)×Unit→Bool) (l,a),fun l l2 a=>(afb:(List ag)×Unit→Unit×(List ag)) (l,a)⟩
theorem ac7:ajD.Ok Tryz.prog:=fJ (C:=ajN) (Lt:=acn) (fn:=Tryz.f61) (rs:=[]) ajD Tryz.prog rfl rfl rfl mixed amz ⟨rfl,rfl⟩ (fq (by decide +kernel)) Tryz.func61 rfl rfl rfl (by decide) (by kernel_rfl) (by kernel_rfl) (by decide) fun l a hp=>⟨ae8 (l,a) hp,ae7 (l,a) hp⟩
open Go.Proofs Go.RowKit
variable [ZA]
theorem alA:(Tryz.prog.info? 69).map (fun i=>(i.zero.map (·.cells.size),i.size,i.bytes))=some (some 13,13,120):=by kernel_rfl
theorem Zm.rng{W:World}(x:ag):Calls Tryz.prog 60 #[.agg #[.int .i64 x.2.2.2.2.2.2.1,.int .i64 x.2.2.2.2.2.2.2.1,.int .i64 x.2.2.2.2.2.2.2.2.1,.int .i64 x.2.2.2.2.2.2.2.2.2.1,.int .i64 x.2.2.2.2.2.2.2.2.2.2.1,.int .i64 x.2.2.2.2.2.2.2.2.2.2.2.1,.bool x.2.2.2.2.2.2.2.2.2.2.2.2]] W fun en w'=>en=.returned (.agg #[.int .i64 (iK x).1,.int .i64 (iK x).2])∧Below W.heap.size W w':=by
 refine(Hw.call VM (x.2.2.2.2.2.2:bP) rfl (A:=fun _=>False) (fun b h=>h.elim) (us:=#[.agg #[.int .i64 x.2.2.2.2.2.2.1,.int .i64 x.2.2.2.2.2.2.2.1,.int .i64 x.2.2.2.2.2.2.2.2.1,.int .i64 x.2.2.2.2.2.2.2.2.2.1,.int .i64 x.2.2.2.2.2.2.2.2.2.2.1,.int .i64 x.2.2.2.2.2.2.2.2.2.2.2.1,.bool x.2.2.2.2.2.2.2.2.2.2.2.2]]) (yE.one (Ag.g ⟨_,_,rfl,Cl.int,_,_,rfl,Cl.int,_,_,rfl,Cl.int,_,_,rfl,Cl.int,_,_,rfl,Cl.int,_,_,rfl,Cl.int,_,rfl,Cl.bool⟩))).mono fun en w' hh=>?_
 obtain⟨us,A',rfl,hr,_,_,hB⟩:=hh;obtain⟨u,rfl,Dm,rfl,u0,r0,e,h0,u1,rfl,h1⟩:=(show ∃u,us=[u]∧∃Dm:Array Value,u=.agg Dm∧∃u0 r0,Dm.toList=u0::r0∧Cl w' A' (zI) (iK x).1 u0∧∃u1,r0=[u1]∧Cl w' A' (zI) (iK x).2 u1 from hr);obtain rfl:=xh h0;obtain rfl:=xh h1;refine⟨?_,hB⟩;have:Dm=#[.int .i64 (iK x).1,.int .i64 (iK x).2]:=by grind
 rw[this];rfl
theorem Zm.rgo{W:World}{A:Nat→Prop}{rs:List eB}{C6:Value}(h:Cl W A (.sl tP) rs C6)(hl:af rs=true)(x:ag):Calls Tryz.prog 59 #[C6,.agg #[.int .i64 (iK x).1,.int .i64 (iK x).2]] W fun en w'=>en=.returned (.tuple #[.int .i64 (rgP rs (iK x)).1,.bool (rgP rs (iK x)).2])∧Below W.heap.size W w':=by
 have h0:Cl W (fun _=>False) (.sl tP) rs C6:=h.fr (cz.refl _ _) (azJ _) (fun _ _ h=>h.elim);refine(Hw.call adr ((rs,iK x):List eB×Rg) hl (A:=fun _=>False) (fun b h=>h.elim) (us:=#[C6,.agg #[.int .i64 (iK x).1,.int .i64 (iK x).2]]) (yE.two (Ag.rdc h0) (Ag.g ⟨_,_,rfl,Cl.int,_,rfl,Cl.int⟩))).mono fun en w' hh=>?_
 obtain⟨us,A',rfl,hr,_,_,hB⟩:=hh;obtain⟨u0,r0,rfl,h0,u1,rfl,h1⟩:=(show ∃u0 r0,us=u0::r0∧Cl w' A' (zI) (rgP rs (iK x)).1 u0∧∃u1,r0=[u1]∧Cl w' A' .bool (rgP rs (iK x)).2 u1 from hr);obtain rfl:=xh h0;obtain rfl:=Gm h1;exact⟨rfl,hB⟩
structure Zm.E8 (wi wr:World) (G n i:Nat) (bM:List ay) (acc:List ag) (ve:Value):Prop where
 afL:aR wi (ef G) G 38 6 bl bM (.slice (some ⟨G,0,none⟩) n n)
 rc:∃s q0 q1 q2 q3 q5,bM[i]? = some s∧Rw wi (ef G) bl s [q0,q1,q2,q3,.slice none 0 0,q5]∧Rc wi wr G i 6 38 [q0,q1,q2,q3,ve,q5]
 own:aR wr (Aq G ve) wi.heap.size 69 13 aF acc ve
section
variable {wi wr W:World} {G n i:Nat} {bM:List ay} {acc:List ag} {ve:Value}
theorem Zm.E8.ev(h:Zm.E8 wi wr G n i bM acc ve):Ev wi wr (fun b=>b=G):=by
 obtain⟨s,q0,q1,q2,q3,q5,_,_,h3⟩:=h.rc;exact h3.1
theorem Zm.E8.lt(h:Zm.E8 wi wr G n i bM acc ve):G<wi.heap.size:=by
 obtain⟨s,q0,q1,q2,q3,q5,_,_,h3⟩:=h.rc;exact h3.lt
theorem Zm.E8.gr(h:Zm.E8 wi wr G n i bM acc ve):G<wr.heap.size:=az3 h.lt h.ev.size
theorem Zm.E8.ne(h:Zm.E8 wi wr G n i bM acc ve):∀g,ve.ownBlock=some g→¬ g=G:=fun g hg e=>by have:=(h.own.lt hg).1;have:=h.lt;omega
theorem Zm.E8.na(h:Zm.E8 wi wr G n i bM acc ve):∀g,ve.ownBlock=some g→¬ ef G g:=fun g hg e=>by have:=(h.own.lt hg).1;have:=h.lt;have:=e.le;omega
theorem Zm.E8.oA(h:Zm.E8 wi wr G n i bM acc ve){b:Nat}(hb:b<wi.heap.size)(ha:Aq G ve b):ef G b:=by
 rcases ha with ha | ha
 ·exact ha
 ·have:=(h.own.lt ha).1;omega
theorem Zm.E8.pure(h:Zm.E8 wi wr G n i bM acc ve){t:Ty}{x:t.T}{u:Value}(hc:Cl wi (ef G) t x u):Cl wr (Aq G ve) t x u:=hc.ev h.ev (fun _ _ h=>.inr h) (fun b hb ha=>h.oA hb ha)
theorem Zm.E8.hA(h:Zm.E8 wi wr G n i bM acc ve)(b:Nat)(ha:Aq G ve b):b<wr.heap.size:=by
 rcases ha with ha | ha
 ·exact ha.lt h.gr
 ·exact(h.own.lt ha).2
theorem Zm.E8.low(h:Zm.E8 wi wr G n i bM acc ve)(hb:Below wr.heap.size wr W):Zm.E8 wi W G n i bM acc ve:=by
 obtain⟨s,q0,q1,q2,q3,q5,h1,h2,h3⟩:=h.rc;exact⟨h.afL,⟨s,q0,q1,q2,q3,q5,h1,h2,h3.low hb⟩,h.own.ev (et hb (fun _=>False)) (fun _ _ h=>h.elim) (fun _ _ h=>h) (fun _ _ h=>h)⟩
theorem Zm.E8.cell(h:Zm.E8 wi wr G n i bM acc ve):wr.cell? ⟨G,i*6+4,none⟩=some ve∧wr.frozen? ⟨G,i*6+4,none⟩=false:=by
 obtain⟨s,q0,q1,q2,q3,q5,h1,h2,h3⟩:=h.rc;exact h3.cell (j:=4) rfl
theorem Zm.E8.au(h:Zm.E8 wi wr G n i bM acc ve){k:Nat}{t:ay}(ht:bM[k]? = some t):∃q,wr.cell? ⟨G,k*6,none⟩=some q∧Cl wr (Aq G ve) (.sl bg) t.1 q:=by
 obtain⟨s,q0,q1,q2,q3,q5,h1,h2,h3⟩:=h.rc;by_cases hk:k=i
 ·subst hk
  obtain rfl:s=t:=az9 (h1.symm.trans ht);obtain⟨z0,z1,z2,z3,z4,z5,e,g0,_⟩:=jt h2;obtain⟨rfl,_⟩:=List.cons.inj e;exact⟨q0,(h3.cell (j:=0) rfl).1,h.pure g0⟩
 ·obtain⟨us,u1,u2,u3,_⟩:=h.afL.aau ht
  obtain⟨z0,z1,z2,z3,z4,z5,rfl,g0,_⟩:=jt u1;exact⟨z0,(h3.others (by omega)).trans (u3 0 _ rfl),h.pure g0⟩
theorem Zm.E8.start(eU:aR wi (ef G) G 38 6 bl bM (.slice (some ⟨G,0,none⟩) n n)){s:ay}(hs:bM[i]? = some s)(h4:wi.cell? ⟨G,i*6+4,none⟩=some (.slice none 0 0)):Zm.E8 wi wi G n i bM [] (.slice none 0 0):=by
 obtain⟨us,u1,VV⟩:=Rc.start eU hs;obtain⟨z0,z1,z2,z3,z4,z5,rfl,_⟩:=jt u1;have e4:=(VV.cell (j:=4) rfl).1;rw[h4]at e4;obtain rfl:=az9 e4;exact⟨eU,⟨s,z0,z1,z2,z3,z5,hs,u1,VV⟩,.inl ⟨rfl,rfl⟩⟩
theorem Zm.E8.push(h:Zm.E8 wi wr G n i bM acc ve)(e:ag){p:Value}(hp:Cl wr (Aq G ve) (.sl aE) e.2.2.2.2.2.1 p){bx:Nat}(nr:HB wr bx 69 (L7 e p).toArray)(hl:acc.length≤1000000000):
  ∃v' w',(Builtin.append_ #[35,35] 35 #[ve,.slice (some ⟨bx,0,none⟩) 1 1]).run Tryz.prog wr=.ok v' w'∧w'.frozen? ⟨G,i*6+4,none⟩=false∧w'.cell? ⟨G,i*6+4,none⟩=some ve∧(∃a n c,v'=.slice a n c)∧
   Zm.E8 wi (w'.setCell ⟨G,i*6+4,none⟩ v') G n i bM (acc++[e]) v'∧Ev wr (w'.setCell ⟨G,i*6+4,none⟩ v') (Aq G ve)∧∀b,b<wr.heap.size→Aq G v' b→Aq G ve b:=by
 obtain⟨i0,z,k1,k2,k3,k4,k5⟩:=BJ alA;have Du:List.length (α:=aA aF) acc≤1000000000:=hl;obtain⟨g,cap,w',hr,eU,bm,fP⟩:=h.own.app (t:=35) Tryz.underlying35 k1 k2 k3 k4 k5 (by omega) (x:=e) (us:=L7 e p) (aeM hp) rfl (bx:=bx) (off:=0) (c:=1) (fun j v hv=>by rw[nr.cell,az8];simpa using hv) (by unfold maxLen;omega) (by omega) h.ev.size (fun g hg=>.inr hg);have nW:∀b,b<wr.heap.size→Aq G (.slice (some ⟨g,0,none⟩) (acc.length+1:Nat) cap) b→Aq G ve b:=fun b hb hx=>by
  rcases hx with hx | hx
  ·exact .inl hx
  ·have hx:g=b:=by simpa [Value.ownBlock]using hx
   subst hx;rcases fP with fP | fP
   ·exact .inr fP
   ·omega
 obtain⟨s,q0,q1,q2,q3,q5,h1,h2,h3⟩:=h.rc;have hgG:¬ ve.ownBlock=some G:=fun hh=>h.ne G hh rfl
 have h3':Rc wi w' G i 6 38 [q0,q1,q2,q3,ve,q5]:=h3.ev bm hgG (fun b hb hh=>by have:=(h.own.lt hh).1;omega);have hg2:wi.heap.size≤g:=by
  rcases fP with fP | fP
  ·exact(h.own.lt fP).1
  ·have:=h.ev.size;omega
 have Ib:Ev w' (w'.setCell ⟨G,i*6+4,none⟩ (.slice (some ⟨g,0,none⟩) (acc.length+1:Nat) cap)) (fun b=>b=G):=(Ev.rf w' _).st G (i*6+4) _ (.inl rfl);refine⟨_,w',hr,(h3'.cell (j:=4) rfl).2,(h3'.cell (j:=4) rfl).1,⟨_,_,_,rfl⟩,⟨h.afL,⟨s,q0,q1,q2,q3,q5,h1,h2,?_⟩,(eU _ nW).ev Ib (fun b _ h=>by first | exact .inl h | exact .inl (.inr h)) (fun _ _ h=>h) (fun g' hg hh=>?_)⟩,?_,nW⟩
 ·have:=h3'.put (off:=4) (vs:=[.slice (some ⟨g,0,none⟩) (acc.length+1:Nat) cap]) (by simp)
  simp[World.setCells]at this;exact this
 ·have hg:g=g':=by simpa [Value.ownBlock]using hg
  have:=h.lt;omega
 ·exact(bm.mono (fun b _ hb=>.inr hb)).tr ⟨Ib.os,Ib.tape,Ib.output,Ib.size,fun b hb hn=>Ib.block b hb (fun hh=>hn (.inl (.inr hh)))⟩
theorem Zm.E8.sort(h:Zm.E8 wi wr G n i bM acc ve)(hl:acc.length≤1099511627776){s:ay}(hs:bM[i]? = some s):Calls Tryz.prog 61 #[ve,.func (.func 62) #[] #[]] wr fun en w'=>en=.returned (.tuple #[])∧
  aR w' (ef G) G 38 6 bl (List.set (α:=ay) bM i (s.1,s.2.1,s.2.2.1,s.2.2.2.1,ca cj acc,s.2.2.2.2.2)) (.slice (some ⟨G,0,none⟩) n n)∧Ev wi w' (fun b=>b=G)∧∀m,(m<i*6∨i*6+6≤m)→w'.cell? ⟨G,m,none⟩=wi.cell? ⟨G,m,none⟩:=by
 refine(Hw.nt ac7 rfl rfl rfl (acc:List ag) () (azC (show acc.length≤1099511627776 from hl)) h.hA h.own (fun g hg=>.inr hg) (us:=[.func (.func 62) #[] #[]]) ⟨[.fn 62 []],⟨_,rfl,[],rfl,rfl⟩,fun H β=>⟨⟨#[],rfl,rfl,fun i x h=>by simp at h⟩,trivial⟩⟩).mono fun en w' hh=>?_
 obtain⟨AM,A',β',rfl,⟨rds,hr,hlen,_⟩,ho,nW,_,bm⟩:=hh;have hr:rds=[]:=hr;subst hr;obtain rfl:=aBs.1 hlen;obtain⟨s',q0,q1,q2,q3,q5,h1,h2,h3⟩:=h.rc;obtain rfl:s'=s:=az9 (h1.symm.trans hs);have hgG:¬ ve.ownBlock=some G:=fun hh=>h.ne G hh rfl
 have h3':Rc wi w' G i 6 38 [q0,q1,q2,q3,ve,q5]:=h3.ev bm hgG (fun b hb hh=>by have:=(h.own.lt hh).1;omega);obtain⟨z0,z1,z2,z3,z4,z5,e,g0,g1,g2,g3,g4,g5⟩:=jt h2;simp only[Ir,aBw,and_true]at e;obtain⟨rfl,rfl,rfl,rfl,rfl,rfl⟩:=e;have up:∀{t:Ty} {x:t.T} {u:Value},Cl wi (ef G) t x u→Cl w' (ef G) t x u:=fun hc=>hc.ev h3'.1 (fun _ _ h=>.inr h) (fun _ _ h=>h)
 have ho2:aR w' (ef G) wi.heap.size 69 13 aF (ca cj acc) ve:=aR.ev (w:=w') (A:=A') ho (Ev.rf w' (fun _=>False)) (fun _ _ h=>h.elim) (fun b _ hb=>nW b (.inl hb)) (fun _ _ h=>h);have hce:Cl w' (ef G) (.sl aF) (ca cj acc) ve:=ho2.cl rfl (fun g hg=>h.na g hg);have aK:=kJ (x:=(s'.1,s'.2.1,s'.2.2.1,s'.2.2.2.1,ca cj acc,s'.2.2.2.2.2)) (up g0) (up g1) (up g2) (up g3) hce (up g5);have hi:i<List.length (α:=aA bl) bM:=(azR.1 hs).1;exact⟨rfl,h3'.fin h.afL hi aK,h3'.1,fun m hm=>h3'.others hm⟩
end
end Go.AL
namespace Go.AL
open Go.Proofs Go.RowKit
variable [ZA]
attribute [local go_sem] Oper.semAt_some
structure Zm.RH (wi Dj wr:World) (G n i:Nat) (bM:List ay) (acc:List ag) (Dl ve:Value):Prop where
 e8:Zm.E8 wi wr G n i bM acc ve
 ev:Ev Dj wr (Aq G Dl)
 oA:∀b,b<Dj.heap.size→Aq G ve b→Aq G Dl b
 form:∃a n c,ve=.slice a n c
section
variable {wi Dj wr W:World} {G n i:Nat} {bM:List ay} {acc:List ag} {Dl ve:Value}
theorem Zm.RH.low(h:Zm.RH wi Dj wr G n i bM acc Dl ve)(hb:Below wr.heap.size wr W):Zm.RH wi Dj W G n i bM acc Dl ve:=⟨h.e8.low hb,h.ev.tr (et hb _),h.oA,h.form⟩
theorem Zm.RH.pure(h:Zm.RH wi Dj wr G n i bM acc Dl ve){t:Ty}{x:t.T}{u:Value}(hc:Cl Dj (Aq G Dl) t x u):Cl wr (Aq G ve) t x u:=hc.ev h.ev (fun _ _ h=>h) h.oA
theorem Zm.RH.push(h:Zm.RH wi Dj wr G n i bM acc Dl ve)(e:ag){p:Value}(hp:Cl wr (Aq G ve) (.sl aE) e.2.2.2.2.2.1 p)(hl:acc.length≤1000000000):∀W bx,Below wr.heap.size wr W→HB W bx 69 (L7 e p).toArray→∃v' w',(Builtin.append_ #[35,35] 35 #[ve,.slice (some ⟨bx,0,none⟩) 1 1]).run Tryz.prog W=.ok v' w'∧
  (w'.frozen? ⟨G,i*6+4,none⟩=false∧w'.cell? ⟨G,i*6+4,none⟩=some ve∧(∃a n c,v'=.slice a n c)∧Zm.RH wi Dj (w'.setCell ⟨G,i*6+4,none⟩ v') G n i bM (acc++[e]) Dl v'):=fun W bx hW hb=>by
 have Kj:=hp.low hW;obtain⟨v',w',h1,h2,h3,h4,h5,h6,h7⟩:=(h.e8.low hW).push e Kj hb hl;have e1:Ev Dj W (Aq G Dl):=h.ev.tr (et hW _);exact⟨v',w',h1,h2,h3,h4,h5,⟨h6.os.trans e1.os,h6.tape.trans e1.tape,h6.output.trans e1.output,az0 e1.size h6.size,fun b hb hn=>(h6.block b (az3 hb e1.size) (fun ha=>hn (h.oA b hb ha))).trans (e1.block b hb hn)⟩,fun b hb ha=>h.oA b hb (h7 b (az3 hb e1.size) ha),h4⟩
end
theorem XR(rs:List eB)(ow:List Int)(c:Int)(e:ag):(iG rs ow c e=false∧(rgP rs (iK e)).2=false)∨∃m:Nat,rgP rs (iK e)=((m:Int),true)∧((iG rs ow c e=false∧¬ (m:Int)<(ow.length:Int))∨∃o,ow[m]? = some o∧((iG rs ow c e=true∧o=c)∨(iG rs ow c e=false∧o ≠ c))):=by
 unfold iG rgP;grind
set_option maxRecDepth 100000 in
set_option maxHeartbeats 4000000 in
theorem Zm.asZ{ee:Act→World→Prop}(wi Dj:World)(B7 G n i:Nat)(bM:List ay)(CE L:List ag)(Dl:Value)(rs:List eB)(ow:List Int)(c:Int)(C6:Value)(la oa:Option Addr)(lc oc:Nat){c1 c2 c3 c4 c5 c6 c8 c9 Gz zb yb zY zX Cx za zW zV ya Cw Cv Cu xZ yZ yY yX yW yV yU Dg Df De zU zT zS zR zQ zP zN zM zL zJ zH DC DB DA Ct Cs Cr Cq Cp Co Cn Cm Ck Cj Ci Ch Cg Cf Ce Cd Cc Cb zG yT yS yR yQ Dd Dc zF zD Io Im Il Ik Ij Ii Ih Ig Ie Ic Gw Gv Gu Gt Gs Gr Gq EM EL EK K0 KZ Gp mX mW mV mU mT mS mR mQ mP mO lJ pZ pY pX mN mM mL mK mJ se sd rZ nR nQ nP nO nN nL nJ nH nG nF pW pV pU pT pS pR pQ pP pO pM pL pJ pI pH pG pF pE pD pC pB pA pz pw pv pk pj ph pg pf pe pd pb o9 o8 o7 o6 o5 oZ oY oX oW oV nE mI mH mG mF mE mD mC lI:Value}(hi:i<n)(gq:n≤1000)
  (h8:Zm.E8 wi Dj G n i bM CE Dl) (hve:∃a n c,Dl=.slice a n c) (hL:Cl Dj (Aq G Dl) (.sl aF) L (.slice la (L.length:Nat) lc)) (Nn:L.length≤1000000) (aye:CE.length+L.length≤1000000000)
  (Y9:Cl wi (ef G) (.sl tP) rs C6) (Em:af rs=true) (how:Cl wi (ef G) (.sl [zI]) ow (.slice oa (ow.length:Nat) oc)) (hB:B7<wi.heap.size) (tM:B7 ≠ G) (ec2:wi.cell? ⟨B7,2,none⟩=some (.slice oa (ow.length:Nat) oc))
  (ej:∀(u23 u24 u25 Jl Jk Jj Ji Jh Jg Jf Je Jd Jc Jb Ja I9 I7 I5 I4 I3 I2 I1 I0 IZ IY IX IW IV IU IT IS IQ IP IN IM IL IK IJ II IH IG IF IE ID IC IB:Value) (w':World) (ve:Value),Zm.RH wi Dj w' G n i bM (CE++L.filter (iG rs ow c)) Dl ve→ee ⟨List.toArray (C6::c1::c2::c3::c4::c5::c6::.pointer (some ⟨B7,0,none⟩)::c8::c9::.slice (some ⟨G,0,none⟩) n n::Gz::zb::yb::zY::zX::Cx::za::.int .i64 (i:Int)::.int .i64 c::zW::zV::ya::u23::u24::u25::xZ::yZ::yY::yX::yW::yV::yU::Dg::Df::De::zU::zT::zS::zR::zQ::zP::zN::zM::zL::zJ::zH::DC::DB::DA::Ct::Cs::Cr::Cq::Cp::Co::Cn::Cm::Ck::Cj::Ci::Ch::Cg::Cf::Ce::Cd::Cc::Cb::zG::yT::yS::yR::yQ::Dd::Dc::zF::zD::Io::Im::Il::Ik::Ij::Ii::Ih::Ig::Ie::Ic::Gw::Gv::Gu::Gt::Gs::Gr::Gq::EM::EL::EK::K0::KZ::Gp::mX::mW::mV::mU::mT::mS::mR::mQ::mP::mO::lJ::pZ::pY::pX::mN::mM::mL::mK::mJ::se::sd::rZ::nR::nQ::nP::nO::nN::nL::nJ::nH::nG::nF::.slice la (L.length:Nat) lc::.int .i64 (L.length:Int)::Jl::Jk::Jj::Ji::Jh::Jg::Jf::Je::Jd::Jc::Jb::Ja::I9::I7::I5::I4::I3::I2::I1::I0::IZ::IY::IX::IW::IV::IU::IT::IS::IQ::IP::IN::IM::IL::IK::IJ::II::IH::IG::IF::IE::ID::IC::IB::nE::mI::mH::mG::mF::mE::mD::mC::lI::[]),[]⟩ w') :
  Code.wp Tryz.prog (Zm.blk 12) (Zm.Qx 12 ee) ⟨List.toArray (C6::c1::c2::c3::c4::c5::c6::.pointer (some ⟨B7,0,none⟩)::c8::c9::.slice (some ⟨G,0,none⟩) n n::Gz::zb::yb::zY::zX::Cx::za::.int .i64 (i:Int)::.int .i64 c::zW::zV::ya::Cw::Cv::Cu::xZ::yZ::yY::yX::yW::yV::yU::Dg::Df::De::zU::zT::zS::zR::zQ::zP::zN::zM::zL::zJ::zH::DC::DB::DA::Ct::Cs::Cr::Cq::Cp::Co::Cn::Cm::Ck::Cj::Ci::Ch::Cg::Cf::Ce::Cd::Cc::Cb::zG::yT::yS::yR::yQ::Dd::Dc::zF::zD::Io::Im::Il::Ik::Ij::Ii::Ih::Ig::Ie::Ic::Gw::Gv::Gu::Gt::Gs::Gr::Gq::EM::EL::EK::K0::KZ::Gp::mX::mW::mV::mU::mT::mS::mR::mQ::mP::mO::lJ::pZ::pY::pX::mN::mM::mL::mK::mJ::se::sd::rZ::nR::nQ::nP::nO::nN::nL::nJ::nH::nG::nF::.slice la (L.length:Nat) lc::.int .i64 (L.length:Int)::.int .i64 0::pW::pV::pU::pT::pS::pR::pQ::pP::pO::pM::pL::pJ::pI::pH::pG::pF::pE::pD::pC::pB::pA::pz::pw::pv::pk::pj::ph::pg::pf::pe::pd::pb::o9::o8::o7::o6::o5::oZ::oY::oX::oW::oV::nE::mI::mH::mG::mF::mE::mD::mC::lI::[]),[]⟩ Dj:=by
 conv=>arg 2;whnf
 have yL:=Tryz.underlying61;have uK:=Tryz.underlying38;have YZ:=Tryz.underlying30;have Nf:=Tryz.underlying35;have hi0:(0:Int)≤(i:Int):=by omega
 have hi1:(i:Int)<(n:Int):=by omega
 have HP:=Hw.bf (And.intro Y9 (And.intro how ec2));have HL:=Hw.bf hL;have H0:=Hw.bf (show Zm.RH wi Dj Dj G n i bM (CE++(L.take 0).filter (iG rs ow c)) Dl Dl from⟨by rw[aBb,aBT,aAc];exact h8,Ev.rf _ _,fun _ _ h=>h,hve⟩);clear Y9 how ec2 hL h8 hve
 go_loopw [134] (fun i' wr=>∃(j:Nat) (ve:Value),j≤L.length∧i'=.int .i64 (j:Int)∧Zm.RH wi Dj wr G n i bM (CE++(L.take j).filter (iG rs ow c)) Dl ve) (fun i' _=>L.length-(RowKit.intOf i').toNat)
 case atStart=>exact⟨0,_,aAu _,rfl,H0.out⟩
 case round=>
  obtain⟨j,ve,hj,rfl,hI⟩:=hrel;clear H0;by_cases TW:j<L.length
  ·have TX:(j:Int)<(L.length:Int):=by omega
   have hj0:(0:Int)≤(j:Int):=by omega
   clear ej;obtain⟨e,he⟩:∃e,L[j]? = some e:=⟨_,azS TW⟩;have htk:L.take (j+1)=L.take j++[e]:=by rw[aAz,he];rfl
   obtain⟨b,off,c',us,hv,hb,_,C9,_,su⟩:=(cH.1 (hI.pure HL.out)).get he;obtain⟨rfl,-,rfl⟩:=Value.slice.inj hv;obtain⟨p,gV,hp⟩:=aeL C9;have uL:us.length=13:=by rw[gV];rfl
   have Qn:∀v∈us,v.oneCell'=true:=C9.one;have F4:wr.rangeAt b (off+j*13) us:=su;have iH:(Tryz.prog.info? 69).map (·.size)=some 13:=by kernel_rfl
   have lA:Below wr.heap.size wr (wr.alloc (.cells us.toArray 69)):=(Below.refl _ _).alloc (azJ _) _;have nr:=HB.new wr 69 us.toArray;have x6:(wr.alloc (.cells us.toArray 69)).cell? ⟨wr.heap.size,6,none⟩=some (.int .i64 e.2.2.2.2.2.2.1):=by rw[nr.cell,gV];rfl
   have x7:(wr.alloc (.cells us.toArray 69)).cell? ⟨wr.heap.size,7,none⟩=some (.int .i64 e.2.2.2.2.2.2.2.1):=by rw[nr.cell,gV];rfl
   have x8:(wr.alloc (.cells us.toArray 69)).cell? ⟨wr.heap.size,8,none⟩=some (.int .i64 e.2.2.2.2.2.2.2.2.1):=by rw[nr.cell,gV];rfl
   have x9:(wr.alloc (.cells us.toArray 69)).cell? ⟨wr.heap.size,9,none⟩=some (.int .i64 e.2.2.2.2.2.2.2.2.2.1):=by rw[nr.cell,gV];rfl
   have dB:(wr.alloc (.cells us.toArray 69)).cell? ⟨wr.heap.size,10,none⟩=some (.int .i64 e.2.2.2.2.2.2.2.2.2.2.1):=by rw[nr.cell,gV];rfl
   have kL:(wr.alloc (.cells us.toArray 69)).cell? ⟨wr.heap.size,11,none⟩=some (.int .i64 e.2.2.2.2.2.2.2.2.2.2.2.1):=by rw[nr.cell,gV];rfl
   have x12:(wr.alloc (.cells us.toArray 69)).cell? ⟨wr.heap.size,12,none⟩=some (.bool e.2.2.2.2.2.2.2.2.2.2.2.2):=by rw[nr.cell,gV];rfl
   have HBX:=Hw.bf (And.intro nr (And.intro gV hp));have HI:=Hw.bf hI;have HAL:=Hw.bf lA;have HT:=Hw.bf htk;clear su hv C9 he gV hp nr hI lA htk
   go_upto_region 34 with(first | (refine wz rfl 69 (.tmp 136) rfl rfl F4 Tryz.underlying69 rfl iH uL ?_) | (refine qQ rfl 69 (.tmp 23) (.tmp 137) rfl rfl rfl (by rfl) uL iH Qn rfl ?_))
   have TP:=Tryz.underlying69;have axf:=Tryz.underlying54;have axe:=Tryz.underlying52;clear F4;obtain⟨ri,rb,hrp⟩:∃x y,rgP rs (iK e)=(x,y):=⟨_,_,rfl⟩;have HRP:=Hw.bf hrp;have HRG:=Hw.bf (fun W (h:Below (wr.alloc (.cells us.toArray 69)).heap.size (wr.alloc (.cells us.toArray 69)) W)=>by
    have:=Zm.rgo (((HI.out.e8.pure HP.out.1).low HAL.out).low h) Em e;rw[hrp]at this;exact this)
   clear hrp
   go_upto_region 35 with(first
    | (go_at_call 60;refine(Zm.rng e).mono ?_;rintro en w5 ⟨rfl,jn⟩)
    | (go_at_call 59;refine(HRG.out _ jn).mono ?_;rintro en w6 ⟨rfl,hB6⟩))
   have hBa:Below wr.heap.size wr w6:=HAL.out.trans ((jn.trans (hB6.mono jn.size)).mono HAL.out.size);have hI6:=HI.out.low hBa;have hb6:HB w6 wr.heap.size 69 (L7 e p).toArray:=by
    have:=(HBX.out.1.below (jn.trans (hB6.mono jn.size)) HBX.out.1.lt)
    rwa [HBX.out.2.1]at this
   have ec2:w6.cell? ⟨B7,2,none⟩=some (.slice oa (ow.length:Nat) oc):=(hI6.e8.ev.cell hB tM).trans HP.out.2.2;have HI6:=Hw.bf hI6;have RI:=Hw.bf (And.intro hb6 hBa);clear hI6 hb6 hBa x6 x7 x8 x9 dB kL x12 HRG;rcases XR rs ow c e with⟨cR,F5⟩ | ⟨m,hm,uR⟩
   ·rw[HRP.out]at F5
    have F5:rb=false:=F5;subst F5;have HF:=Hw.bf (show Zm.RH wi Dj w6 G n i bM (CE++(L.take (j+1)).filter (iG rs ow c)) Dl ve from by
     rw[HT.out,aB3,aB7 (by rw[cR];simp),aBT,aAc];exact HI6.out)
    go_wp2;exact⟨⟨j+1,_,by omega,by congr 1,HF.out⟩,by simp[RowKit.intOf];omega⟩
   ·rw[HRP.out]at hm
    obtain⟨rfl,rfl⟩:=Prod.mk.inj hm;have TT:(0:Int)≤(m:Int):=by omega
    rcases uR with⟨cR,Qi⟩ | ⟨o,ho,uR⟩
    ·have HF:=Hw.bf (show Zm.RH wi Dj w6 G n i bM (CE++(L.take (j+1)).filter (iG rs ow c)) Dl ve from by
      rw[HT.out,aB3,aB7 (by rw[cR];simp),aBT,aAc];exact HI6.out)
     go_wp2;exact⟨⟨j+1,_,by omega,by congr 1,HF.out⟩,by simp[RowKit.intOf];omega⟩
    ·have axC:(m:Int)<(ow.length:Int):=by have:=(azR.1 ho).1;omega
     obtain⟨b2,lj,c2,VU,nC,Ia⟩:=FZ (cH.1 (HI6.out.e8.pure HP.out.2.1)) ho;obtain⟨rfl,-,rfl⟩:=Value.slice.inj VU;clear VU;rcases uR with⟨cR,hoc⟩ | ⟨cR,hoc⟩
     ·subst hoc
      have hlen:(CE++(L.take j).filter (iG rs ow o)).length≤1000000000:=by
       have h1:=aCk (iG rs ow o) (L.take j);have h2:=List.length_take_le j L;simp only[azG];omega
      obtain⟨pa,pn,pc,rfl⟩:=HBX.out.2.2.form;obtain⟨va,vn,vc,rfl⟩:=HI6.out.form;have HG:=Hw.bf (HI6.out.push e (HBX.out.2.2.low RI.out.2) hlen);have HT2:=Hw.bf (show CE++(L.take (j+1)).filter (iG rs ow o)=(CE++(L.take j).filter (iG rs ow o))++[e]by
       rw[HT.out,aB3,aCp cR,aBT,aAB])
      have hca:=HI6.out.e8.cell.1;have hcb:∀ob:Obj,(w6.alloc ob).cell? ⟨G,i*6+4,none⟩=some (.slice va vn vc):=fun ob=>(((Below.refl w6.heap.size w6).alloc (azJ _) ob).cell (p:=⟨G,i*6+4,none⟩) HI6.out.e8.gr).trans hca
      have y0:w6.cell? ⟨wr.heap.size,0,none⟩=some _:=RI.out.1.cell 0;have y1:w6.cell? ⟨wr.heap.size,1,none⟩=some _:=RI.out.1.cell 1;have y2:w6.cell? ⟨wr.heap.size,2,none⟩=some _:=RI.out.1.cell 2;have y3:w6.cell? ⟨wr.heap.size,3,none⟩=some _:=RI.out.1.cell 3;have y4:w6.cell? ⟨wr.heap.size,4,none⟩=some _:=RI.out.1.cell 4;have y5:w6.cell? ⟨wr.heap.size,5,none⟩=some _:=RI.out.1.cell 5;have y6:w6.cell? ⟨wr.heap.size,6,none⟩=some _:=RI.out.1.cell 6;have y7:w6.cell? ⟨wr.heap.size,7,none⟩=some _:=RI.out.1.cell 7;have y8:w6.cell? ⟨wr.heap.size,8,none⟩=some _:=RI.out.1.cell 8;have y9:w6.cell? ⟨wr.heap.size,9,none⟩=some _:=RI.out.1.cell 9;have y10:w6.cell? ⟨wr.heap.size,10,none⟩=some _:=RI.out.1.cell 10;have y11:w6.cell? ⟨wr.heap.size,11,none⟩=some _:=RI.out.1.cell 11;have y12:w6.cell? ⟨wr.heap.size,12,none⟩=some _:=RI.out.1.cell 12;clear ho cR HAL;go_wp2
      go_region_law ((refine Za.Pn (by rfl) (.tmp 170) (.tmp 172) 35 (by rfl) (by rfl) (by rfl) (by rfl) (HG.out _ _ (by first | exact(((Below.refl _ _).alloc (azJ _) _).drew) | exact(((Below.refl _ _).drew).alloc (azJ _) _)) (by exact HB.new _ _ _)) ?_;rintro v5 w5 ⟨hf5,hc5,⟨a5,n5,c5,rfl⟩,hI5⟩))
      all_goals go_wp2
      all_goals exact⟨⟨j+1,_,by omega,by congr 1,by rw[HT2.out];exact hI5⟩,by simp[RowKit.intOf];omega⟩
     ·have axy:(o == c)=false:=by simp[hoc]
      have HF:=Hw.bf (show Zm.RH wi Dj w6 G n i bM (CE++(L.take (j+1)).filter (iG rs ow c)) Dl ve from by
       rw[HT.out,aB3,aB7 (by rw[cR];simp),aBT,aAc];exact HI6.out)
      go_wp2;exact⟨⟨j+1,_,by omega,by congr 1,HF.out⟩,by simp[RowKit.intOf];omega⟩
  ·obtain rfl:j=L.length:=by omega
   have TX:¬ (L.length:Int)<(L.length:Int):=by omega
   rw[aBi]at hI;have HF:=Hw.bf hI;clear hI;go_wp2;exact⟨rfl,ej _ _ _ _ _ _ _ _ _ _ _ _ _ _ _ _ _ _ _ _ _ _ _ _ _ _ _ _ _ _ _ _ _ _ _ _ _ _ _ _ _ _ _ _ _ _ _ _ HF.out⟩
end Go.AL
