/- AI. -/
import Derived.Test.YtfggefeflojnkaaGreatAlFrz
set_option linter.unusedVariables false
namespace Go.AL
structure Src (E:Env) (es:Nat) (rows:List (List V)) (u:Value) (m:Nat):Prop where
 len:m=rows.length
 src:(rows=[]∧∃(a:Option Addr) (c:Nat),u=.slice a 0 c)∨∃(b off c:Nat) (F:Nat→Value),u=.slice (some ⟨b,off,none⟩) rows.length c∧
  (∀k,k<rows.length*es→E.w.cell? ⟨b,off+k,none⟩=some (F k))∧
  (∀(i:Nat) (row:List V),rows[i]? = some row→∀(j:Nat) (x:V),row[j]? = some x→aY E.w E.A x (F (i*es+j)))
theorem Src.PN{E:Env}{X:Nat→Prop}{es:Nat}{rows:List (List V)}{u:Value}(bI:∀r∈rows,r.length=es)(dr:0<es)(h:gF E.w E.A X rows u):Src E es rows u rows.length:=by
 refine⟨rfl,?_⟩;rcases h with⟨⟨a,rfl⟩,rfl⟩ | ⟨b,off,cap,j7,f,rfl,jM,hb,rW,hc,hr⟩
 ·grind
 ·refine .inr ⟨b,off,cap,fun k=>f (k / es) (k % es),rfl,fun k hk=>?_,fun i row hi j x hx=>?_⟩
  ·have bO:k / es<rows.length:=Nat.div_lt_of_lt_mul (by grind)
   obtain⟨row,aK⟩:∃row,rows[k / es]? = some row:=⟨_,azS bO⟩;have h1:=bI row (azO aK);have h2:=rW row (azO aK);have hm:k % es<row.length:=by rw[h1];exact Nat.mod_lt _ dr
   obtain⟨x,hx⟩:∃x,row[k % es]? = some x:=⟨_,azS hm⟩;have:=hc _ row aK _ x hx;rw[← h2,h1]at this;rw[← this]
   congr 2
   have:=Nat.div_add_mod k es;grind
  ·have h1:=bI row (azO hi)
   have hj:j<es:=by grind
   have e1:(i*es+j) / es=i:=by
    rw[aBo,Nat.mul_add_div dr,Nat.div_eq_of_lt hj];simp
   have e2:(i*es+j) % es=j:=by
    rw[aBo,Nat.mul_add_mod,aAJ hj]
   grind
theorem Src.D9{E:Env}(H:bU E){es:Nat}{y:V}{rows:List (List V)}{u:Value}(hy:Rel E y u)(h:rowsOf E.h y=some rows)(bI:∀r∈rows,r.length=es)(dr:0<es):Src E es rows u rows.length:=by
 unfold rowsOf at h
 split at h<;>try trivial
 ·cases h;cases hy;exact⟨rfl,.inl ⟨rfl,_,_,rfl⟩⟩
 ·cases h;exact Src.PN bI dr (ei hy)
 ·cases h;exact Src.PN bI dr hy
 ·cases h;cases hy;exact⟨rfl,.inl ⟨rfl,_,_,rfl⟩⟩
 ·rename_i o n
  split at h<;>try trivial
  rename_i ob ho
  split at h<;>try trivial
  rename_i hc;cases h;obtain⟨hn,himp⟩:=hc;have h2:=(hy ob ho).2 hn;have aO:=H.ok o ob ho;refine⟨rfl,?_⟩;cases hb:E.β o with
  | none=>
   rw[hb]at h2 aO;exact .inl ⟨aO,none,0,by have h0:ob.rows=[]:=aO;exact h2⟩
  | some b=>
   rw[hb]at h2 aO;obtain⟨cap,cur,rfl,h3,h4,h5,h6⟩:=h2;obtain⟨_,cur',hh,rW,hlen,j6⟩:=aO;have:cur'=cur:=by grind
   subst this;by_cases hr:ob.rows=[]
   ·grind
   obtain⟨r0,L5⟩:=List.exists_mem_of_ne_nil _ hr;have hee:ob.es=es:=by grind
   refine .inr ⟨b,0,cap,fun k=>(cur'[k]?).getD undef,by rw[hn],fun k hk=>?_,fun i row hi j x hx=>?_⟩
   ·rw[cell_of_row E.w b _ cur' ob.ty (0,0) hh]
    grind
   grind
section
variable {P:Program} {w0:World} {I:rM} {A0:Nat→Prop} {n:Nat} {s:St} {a:Act} {w:World} {β:Nat→Option Nat} {A:Nat→Prop}
theorem Et{es m:Nat}{b off:Nat}{F:Nat→Value}(w:World)(hc:∀k,k<m*es→w.cell? ⟨b,off+k,none⟩=some (F k)):
  ((List.range (m*es)).map F).length=m*es∧∀(j:Nat) (v:Value),((List.range (m*es)).map F)[j]? = some v→w.cell? ((⟨b,off,none⟩:Addr).add j)=some v:=by
 refine⟨by simp,fun j v hv=>?_⟩;rw[Addr.add_mid];grind
theorem RB.UD(R:RB w0 I A0 n s a w β A){t e:TypeId}(ht:dC P t=some e)(dr:0<aq P e)(hz:(eX P e).isSome){new:List (List V)}{y:V}{u:Value}(hy:Rel ⟨w,A,s.h,β⟩ y u)(bF:rowsOf s.h y=some new)
  (bI:∀r∈new,r.length=aq P e) (BP:new.length*bytesOf P e≤140737488355328) (hm:new.length≤maxLen) (ty:TypeId) (d:Nat) (hd:d<n) :
  ∃r w',(Builtin.append_ #[t,t] ty #[.slice none 0 0,u]).run P w=.ok r w'∧RRf w0 I A0 n (s.new d ⟨e,aq P e,false,new⟩ (.ref d new.length)) (a.put (some d) r) w' d:=by
 have hu:=fS ht;obtain⟨ti,ra,dO⟩:=kf (P:=P) (t:=e) rfl dr;obtain⟨zz,TN⟩:=aA1.1 hz;obtain⟨ti',zv,Y3,P6,P7,_⟩:=eW TN;rw[ra]at Y3;cases Y3;have V4:bytesOf P e=ti.bytes:=by grind[bytesOf]
 have s4:=Src.D9 R.bZ hy bF bI dr;rcases s4.src with⟨uM,a',c',rfl⟩ | ⟨b,off,c,F,rfl,hc,hr⟩
 ·refine⟨.slice none 0 0,w,?_,?_⟩
  ·cases a'<;>simp[Builtin.append_,run_underlying hu,sizeOf,typeInfo,ra,Builtin.lenOf,Builtin.firstCells,loadCells,loadCellsFrom]
  ·have:=R.Ya d ⟨e,aq P e,false,new⟩ uM (some d) (fun k hk=>by cases hk;exact hd) (.ref d 0) (.slice none 0 0) (.inr ⟨rfl,rfl⟩) hd
   rw[uM];rw[uM]at this;exact⟨_,_,this,fun b h=>by simp at h⟩
 ·by_cases hz0:new.length=0
  ·have uM:new=[]:=aAf hz0
   refine⟨.slice none 0 0,w,?_,?_⟩
   ·simp[hz0,Builtin.append_,run_underlying hu,sizeOf,typeInfo,ra,Builtin.lenOf,Builtin.firstCells,loadCells,loadCellsFrom]
   ·have:=R.Ya d ⟨e,aq P e,false,new⟩ uM (some d) (fun k hk=>by cases hk;exact hd) (.ref d 0) (.slice none 0 0) (.inr ⟨rfl,rfl⟩) hd
    rw[uM];rw[uM]at this;exact⟨_,_,this,fun b h=>by simp at h⟩
  ·obtain⟨f1,f2⟩:=Et w hc
   have iX:=run_append_nil (P:=P) w t ty e ti zv hu ra P6 ⟨b,off,none⟩ new.length c ((List.range (new.length*aq P e)).map F) (by rw[f1,dO]) f2 (by omega) (by simp only[maxLen]at hm;omega) (by grind);have Ga:=grownCap_ge w new.length 0 e;have V3:=grownCap_le_maxLen w new.length 0 e hm;obtain⟨cur,fw⟩:∃cur,cur=(List.map F (List.range (new.length*aq P e))).toArray++Builtin.zeroCells zv.cells (grownCap w new.length 0 e-new.length):=⟨_,rfl⟩;rw[← fw]at iX;refine⟨_,_,iX,_,_,R.new d hd ⟨e,aq P e,false,new⟩ cur (w.drew.alloc (.cells cur e)) rfl ⟨rfl,rfl,rfl⟩ bI ?_ ?_ (.ref d new.length) _ (.inr ⟨rfl,_,rfl,Ga,V3,?_⟩),fun b h=>by simp at h;subst h;exact R.ev.size⟩
   ·simp[fw]
   ·intro i row hi j x hx
    have h1:=bI row (azO hi);have hj:j<aq P e:=by grind
    have nB:=(azR.1 hi).1;have bO:i*aq P e+j<new.length*aq P e:=by
     have:(i+1)*aq P e≤new.length*aq P e:=aAh _ nB;grind
    have hrel:=hr i row hi j x hx;refine⟨F (i*aq P e+j),?_,hrel.gT,bw.aN hrel,fun _=>hrel⟩;grind
   ·simp only[fw,Array.size_append,aA5,f1,size_zeroCells,P7]
    rw[← aAb]
    grind
theorem RB.UC(R:RB w0 I A0 n s a w β A){t e:TypeId}(ht:dC P t=some e)(dr:0<aq P e)(hz:(eX P e).isSome){new:List (List V)}{y:V}{u cx:Value}(hy:Rel ⟨w,A,s.h,β⟩ y u)(bF:rowsOf s.h y=some new)
  (bI:∀r∈new,r.length=aq P e) {o m:Nat} {ob:Ob} (ho:s.h o=some ob) (hx:Rel ⟨w,A,s.h,β⟩ (.ref o m) cx) (TT:m=ob.rows.length) (qZ:ob.ty=e) (F8:ob.es=aq P e)
  (BP:(m+new.length)*bytesOf P e≤140737488355328) (hm:m+new.length≤maxLen) (ty:TypeId) (d:Option Nat) (hd:∀k,d=some k→k<n) :
  ∃r w',(Builtin.append_ #[t,t] ty #[cx,u]).run P w=.ok r w'∧RR w0 I A0 n ((s.bQ o {ob with rows:=ob.rows++new }).put d (.ref o (ob.rows++new).length)) (a.put d r) w':=by
 have hu:=fS ht;obtain⟨ti,ra,dO⟩:=kf (P:=P) (t:=e) rfl dr;obtain⟨zz,TN⟩:=aA1.1 hz;obtain⟨ti',zv,Y3,P6,P7,_⟩:=eW TN;rw[ra]at Y3;cases Y3;have V4:bytesOf P e=ti.bytes:=by grind[bytesOf]
 have s4:=Src.D9 R.bZ hy bF bI dr;have aO:=R.bZ.ok o ob ho;have zu:=(hx ob ho).2 TT;simp only at aO zu;by_cases hz0:new.length=0
 ·have uM:new=[]:=aAf hz0
  subst uM;have hu0:∃a' c',u=.slice a' 0 c':=by
   rcases s4.src with⟨_,a',c',rfl⟩ | ⟨b,off,c,F,rfl,_⟩
   all_goals grind
  obtain⟨a',c',rfl⟩:=hu0;have hcx:∃ad cap,cx=.slice ad m cap∧m≤cap:=by
   cases hb:β o with
   | none=>
    rw[hb]at aO zu;have h0:ob.rows=[]:=aO;grind
   | some b=>grind
  obtain⟨ad,cap,rfl,jM⟩:=hcx;refine⟨.slice ad m cap,w,?_,β,A,?_⟩
  ·cases a'<;>cases ad<;>simp[Builtin.append_,run_underlying hu,sizeOf,typeInfo,ra,Builtin.lenOf,Builtin.firstCells,loadCells,loadCellsFrom,storeCells,jM]
  ·have e1:(s.bQ o {ob with rows:=ob.rows++[] })=s:=by
    have cR:({ob with rows:=ob.rows++[] }:Ob)=ob:=by simp
    rw[cR];simp only[St.bQ];have:gd s.h o ob=s.h:=by
     grind[gd]
    rw[this]
   rw[e1];refine R.put d hd _ _ ?_;grind
 rcases s4.src with⟨uM,_⟩ | ⟨b,off,c,F,rfl,hc,hr⟩
 ·grind
 obtain⟨f1,f2⟩:=Et w hc;have zx:∀(i:Nat) (row:List V),new[i]? = some row→∀(j:Nat) (x:V),row[j]? = some x→i*aq P e+j<new.length*aq P e∧aY w A x (F (i*aq P e+j)):=by
  intro i row hi j x hx;have h1:=bI row (azO hi);have hj:j<aq P e:=by grind
  have nB:=(azR.1 hi).1;have:(i+1)*aq P e≤new.length*aq P e:=aAh _ nB;grind
 have Zj:(ob.rows++new).length ≠ ob.rows.length:=by grind
 cases hb:β o with
 | none=>
  rw[hb]at aO zu;have h0:ob.rows=[]:=aO;subst zu;have atH:m=0:=by grind
  subst atH;have iX:=run_append_nil (P:=P) w t ty e ti zv hu ra P6 ⟨b,off,none⟩ new.length c ((List.range (new.length*aq P e)).map F) (by rw[f1,dO]) f2 (by omega) (by simp only[maxLen]at hm;omega) (by grind);have Ga:=grownCap_ge w new.length 0 e;have V3:=grownCap_le_maxLen w new.length 0 e (by omega);obtain⟨cur,fw⟩:∃cur,cur=(List.map F (List.range (new.length*aq P e))).toArray++Builtin.zeroCells zv.cells (grownCap w new.length 0 e-new.length):=⟨_,rfl⟩;rw[← fw]at iX;refine⟨_,_,iX,_,_,R.afB o ob {ob with rows:=ob.rows++new } ho rfl rfl (by simp) (w.drew.alloc (.cells cur e)) w.heap.size cur ?_ (.inr ⟨rfl,Zj⟩) ?_ ?_ ⟨rfl,rfl,rfl⟩ ?_ ?_ ?_ d hd (.ref o (ob.rows++new).length) _ (.inr ⟨rfl,grownCap w new.length 0 e,?_,?_,V3,?_⟩)⟩
  ·rw[qZ];exact heap_alloc_new w.drew _
  ·intro k hk _;show(w.heap.push _)[k]? = _;grind
  ·show w.heap.size≤(w.heap.push _).size;simp
  ·grind
  ·grind
  ·intro i row hi j x hx
   rw[h0]at hi;obtain⟨bO,hrel⟩:=zx i row (by grind) j x hx;rw[F8];refine⟨F (i*aq P e+j),?_,hrel.gT,bw.aN hrel,fun _=>hrel⟩;grind
  ·simp[h0]
  ·grind
  ·rw[F8]
   simp only[fw,Array.size_append,aA5,f1,size_zeroCells,P7];rw[← aAb]
   grind
 | some b0=>
  rw[hb]at aO zu;obtain⟨_,cur,hh,Em,hlen,j6⟩:=aO;obtain⟨cap,cur',rfl,hmc,auf,hh',uR⟩:=zu;have hce:cur'=cur:=by grind
  subst hce;simp only at hh j6;by_cases Qd:m+new.length≤cap
  ·have agz:m*ti.size+((List.range (new.length*aq P e)).map F).length≤cur'.size:=by
    rw[f1,dO,← aAb,uR,F8];exact aAh _ Qd
   have Qn:∀u∈(List.range (new.length*aq P e)).map F,u.oneCell'=true:=by
    intro u hu;obtain⟨k,hk,rfl⟩:=az4.1 hu;have wv:k<new.length*aq P e:=by grind
    have bO:k / aq P e<new.length:=Nat.div_lt_of_lt_mul (by grind);obtain⟨row,aK⟩:∃row,new[k / aq P e]? = some row:=⟨_,azS bO⟩;have h2:=bI row (azO aK);have hmm:k % aq P e<row.length:=by rw[h2];exact Nat.mod_lt _ dr
    obtain⟨x,hx⟩:∃x,row[k % aq P e]? = some x:=⟨_,azS hmm⟩;have h3:=(zx _ row aK _ x hx).2;have h4:=Nat.div_add_mod k (aq P e);rw[aBo]at h4;rw[h4]at h3;exact h3.gT
   have iX:=run_append_room (P:=P) w t ty e ti hu ra b0 m cap cur' (by rw[hh,qZ]) ⟨b,off,none⟩ new.length c ((List.range (new.length*aq P e)).map F) (by rw[f1,dO]) f2 Qn Qd agz;obtain⟨xf,uQ⟩:∃xf,xf=(cur'.toList.take (m*ti.size)++(List.range (new.length*aq P e)).map F++cur'.toList.drop (m*ti.size+((List.range (new.length*aq P e)).map F).length)).toArray:=⟨_,rfl⟩;rw[← uQ]at iX;have V0:m*ti.size≤cur'.size:=by omega
   have ama:xf.size=cur'.size:=by
    grind
   refine⟨_,_,iX,_,_,R.afB o ob {ob with rows:=ob.rows++new } ho rfl rfl (by simp) (w.setRow b0 xf) b0 xf (setRow_heap w b0 cur' xf ob.ty (0,0) hh) (.inl ⟨hb,fun c hc=>?_⟩) ?_ ?_ ⟨rfl,rfl,rfl⟩ ?_ ?_ ?_ d hd (.ref o (ob.rows++new).length) _ (.inr ⟨rfl,cap,?_,?_,auf,?_⟩)⟩
   ·grind
   ·intro k hk dU
    exact setRow_other w b0 k xf (fun e=>dU (by rw[hb,e]))
   ·simp_all
   ·grind
   ·rw[ama,uR,azG,← TT];grind
   ·intro i row hi j x hx
    by_cases nB:i<ob.rows.length
    ·rw[aAg nB]at hi
     obtain⟨v,c1,c2,c3,c4⟩:=j6 i row hi j x hx;refine⟨v,?_,c2,c3,c4⟩;have hj:j<ob.es:=by grind
     have bO:i*ob.es+j<m*ti.size:=by
      have:(i+1)*ob.es≤m*ob.es:=aAh _ (by omega);grind
     grind
    ·rw[aAa (by omega)]at hi
     obtain⟨bO,hrel⟩:=zx _ row hi j x hx;refine⟨F ((i-ob.rows.length)*aq P e+j),?_,hrel.gT,bw.aN hrel,fun _=>hrel⟩;have Ng:i*ob.es+j=m*ti.size+((i-ob.rows.length)*aq P e+j):=by
      rw[dO,← F8,← Nat.add_assoc,← aAb]
      grind
     rw[uQ,Ng];simp only[aBj,aAB];rw[aAa (by simp;omega)];simp only[az5,aAU,show min (m*ti.size) cur'.size=m*ti.size from by omega,aB0];grind
   all_goals grind
  ·obtain⟨Tv,holds⟩:∃Tv,Tv=cur'.toList.take (m*ob.es):=⟨_,rfl⟩
   have V0:m*ob.es≤cur'.size:=by grind
   have hol:Tv.length=m*ti.size:=by grind
   have hoc:∀(j:Nat) (v:Value),Tv[j]? = some v→w.cell? ((⟨b0,0,none⟩:Addr).add j)=some v:=by
    intro j v hv;rw[Addr.add_mid,az8,cell_of_row w b0 j cur' ob.ty (0,0) hh];grind
   have iX:=run_append_grow (P:=P) w t ty e ti zv hu ra P6 ⟨b0,0,none⟩ m cap Tv hol hoc ⟨b,off,none⟩ new.length c ((List.range (new.length*aq P e)).map F) (by rw[f1,dO]) f2 (by omega) (by simp only[maxLen]at hm;omega) (growslice_fits (by omega) (by grind));have Ga:=grownCap_ge w (m+new.length) cap e;have V3:=grownCap_le_maxLen w (m+new.length) cap e hm;obtain⟨xf,uQ⟩:∃xf,xf=Tv.toArray++(List.map F (List.range (new.length*aq P e))).toArray++Builtin.zeroCells zv.cells (grownCap w (m+new.length) cap e-(m+new.length)):=⟨_,rfl⟩;rw[← uQ]at iX;have agm:xf.size=grownCap w (m+new.length) cap e*aq P e:=by
    rw[uQ];simp only[Array.size_append,aA5,f1,size_zeroCells,P7,hol,dO];rw[← aAb,← aAb]
    grind
   refine⟨_,_,iX,_,_,R.afB o ob {ob with rows:=ob.rows++new } ho rfl rfl (by simp) (w.drew.alloc (.cells xf e)) w.heap.size xf ?_ (.inr ⟨rfl,Zj⟩) ?_ ?_ ⟨rfl,rfl,rfl⟩ ?_ ?_ ?_ d hd (.ref o (ob.rows++new).length) _ (.inr ⟨rfl,grownCap w (m+new.length) cap e,?_,?_,V3,?_⟩)⟩
   ·rw[qZ];exact heap_alloc_new w.drew _
   ·intro k hk _;show(w.heap.push _)[k]? = _;grind
   ·simp_all
   ·grind
   ·rw[agm,F8,azG,← TT];grind
   ·intro i row hi j x hx
    by_cases nB:i<ob.rows.length
    ·rw[aAg nB]at hi
     obtain⟨v,c1,c2,c3,c4⟩:=j6 i row hi j x hx;refine⟨v,?_,c2,c3,c4⟩;have hj:j<ob.es:=by grind
     have bO:i*ob.es+j<m*ob.es:=by
      have:(i+1)*ob.es≤m*ob.es:=aAh _ (by omega);grind
     grind
    ·rw[aAa (by omega)]at hi
     obtain⟨bO,hrel⟩:=zx _ row hi j x hx;refine⟨F ((i-ob.rows.length)*aq P e+j),?_,hrel.gT,bw.aN hrel,fun _=>hrel⟩;have Ng:i*ob.es+j=m*ti.size+((i-ob.rows.length)*aq P e+j):=by
      rw[dO,← F8,← Nat.add_assoc,← aAb]
      grind
     rw[uQ,Ng,Array.append_assoc,aBv (by grind)];simp only[aA5,hol,aB0];grind
   ·simp[TT]
   all_goals grind
theorem RB.one(R:RB w0 I A0 n s a w β A){t:TypeId}{imp:Bool}{cs:List V}{v:Value}(hc:Cells ⟨w,A,s.h,β⟩ imp cs v.cells.toList)(hlen:cs.length=aq P t)(d:Nat)(hd:d<n):
  RRf w0 I A0 n (s.new d ⟨t,aq P t,imp,[cs]⟩ (.ptr d 1 0 0)) (a.put (some d) (.pointer (some ⟨w.heap.size,0,none⟩))) (w.alloc (.cells v.cells t)) d:=by
 have tL:v.cells.size=cs.length:=by simpa using hc.1
 refine⟨_,_,R.new d hd ⟨t,aq P t,imp,[cs]⟩ v.cells (w.alloc (.cells v.cells t)) rfl ⟨rfl,rfl,rfl⟩ ?_ ?_ ?_ _ _ (.inl ⟨rfl,rfl⟩),fun b h=>by simp at h;subst h;exact R.ev.size⟩
 ·grind
 ·simp;omega
 ·intro i row hi j x hx
  cases i with
  | zero=>
   simp at hi;subst hi;obtain⟨u,h1,h2,h3,h4⟩:=hc.2 j x hx;grind
  | succ i=>simp at hi
theorem xU{α:Type}(es:Nat):∀(m:Nat) (z:List α),(cL es m z).length=m
 | 0,z=>rfl
 | m+1,z=>by simp[cL,xU es m]
theorem B0{α:Type}(es:Nat):∀(m:Nat) (z:List α),z.length=m*es→∀row∈cL es m z,row.length=es
 | 0,z,h,row,hr=>by grind[cL]
 | m+1,z,h,row,hr=>by
  simp only[cL,azW]at hr;rw[aAb,aBa]at h;rcases hr with rfl | hr
  ·simp;omega
  ·exact B0 es m _ (by simp;omega) row hr
theorem xV{α:Type}(es:Nat):∀(m:Nat) (z:List α) (i:Nat) (row:List α),(cL es m z)[i]? = some row→∀(j:Nat) (x:α),row[j]? = some x→z[i*es+j]? = some x
 | 0,z,i,row,h,j,x,hx=>by grind[cL]
 | m+1,z,0,row,h,j,x,hx=>by
  grind[cL]
 | m+1,z,i+1,row,h,j,x,hx=>by
  simp only[cL,aBp]at h;have:=xV es m _ i row h j x hx;grind
theorem RB.arr(R:RB w0 I A0 n s a w β A){t:TypeId}{m es:Nat}{cs:List V}{v:Value}(hc:Cells ⟨w,A,s.h,β⟩ false cs v.cells.toList)(hlen:cs.length=m*es)(d:Nat)(hd:d<n):
  RRf w0 I A0 n (s.new d ⟨t,es,false,cL es m cs⟩ (.ptr d (cL es m cs).length 0 0)) (a.put (some d) (.pointer (some ⟨w.heap.size,0,none⟩))) (w.alloc (.cells v.cells t)) d:=by
 have tL:v.cells.size=cs.length:=by simpa using hc.1
 refine⟨_,_,R.new d hd ⟨t,es,false,cL es m cs⟩ v.cells (w.alloc (.cells v.cells t)) rfl ⟨rfl,rfl,rfl⟩ (B0 es m cs hlen) ?_ ?_ _ _ (.inl ⟨rfl,rfl⟩),fun b h=>by simp at h;subst h;exact R.ev.size⟩
 ·grind[xU]
 ·intro i row hi j x hx
  obtain⟨u,h1,h2,h3,h4⟩:=hc.2 _ x (xV es m cs i row hi j x hx);grind
theorem BW{es:Nat}:∀(parts:List (Nat×V)) (k:Nat) (cs:List V),parts.map (·.1)=List.range' k parts.length→(∀q∈parts,q.2.cells.length=es)→(k+parts.length)*es≤cs.length→
  lE (fun i=>some (i*es,es)) cs parts=some (cs.take (k*es)++(parts.map (·.2.cells)).flatten++cs.drop ((k+parts.length)*es))
 | [],k,cs,_,_,hl=>by simp[lE]
 | (i,x)::parts,k,cs,hk,bI,hl=>by
  simp only[aAy,azL,List.range'_succ,aBw]at hk;obtain⟨rfl,hk⟩:=hk;have hx:=bI (i,x) (by simp);simp only at hx;simp only[azL]at hl;have h1:(i+1+parts.length)*es≤cs.length:=by grind
  have Zo:i*es+es≤cs.length:=by
   grind
  simp only[lE,hx];rw[azE ⟨trivial,Zo⟩];have Qf:(putAt cs (i*es) x.cells).length=cs.length:=by
   simp only[putAt,azG,az5,aAe,hx];omega
  rw[BW parts (i+1) _ hk (fun q hq=>bI q (by simp[hq])) (by grind)]
  congr 1
  have e1:(putAt cs (i*es) x.cells).take ((i+1)*es)=cs.take (i*es)++x.cells:=by
   simp only[putAt];rw[List.take_append_of_le_length (by grind),aAQ (by grind)]
  have e2:(putAt cs (i*es) x.cells).drop ((i+1+parts.length)*es)=cs.drop ((i+(parts.length+1))*es):=by
   simp only[putAt,hx];have hle:i*es+es≤(i+1+parts.length)*es:=by
    grind
   have Db:(cs.take (i*es)++x.cells).length=i*es+es:=by grind
   rw[List.drop_append,aB9 (by grind),Db,aAs,aBE]
   grind
  grind
theorem xR{es:Nat}:∀(rows:List (List V)),(∀r∈rows,r.length=es)→∀(i:Nat) (row:List V),rows[i]? = some row→∀(j:Nat) (x:V),row[j]? = some x→rows.flatten[i*es+j]? = some x
 | [],_,i,row,hi,_,_,_=>by simp at hi
 | r::rows,bI,i,row,hi,j,x,hx=>by
  have hr:=bI r (by simp);cases i with
  | zero=>
   grind
  | succ i=>
   simp only[List.flatten_cons];rw[aAa (by grind),hr,show(i+1)*es+j-es=i*es+j from by rw[aAb];omega];exact xR rows (fun q hq=>bI q (by simp[hq])) i row (by grind) j x hx
theorem xQ{es:Nat}:∀(rows:List (List V)),(∀r∈rows,r.length=es)→rows.flatten.length=rows.length*es
 | [],_=>by simp
 | r::rows,h=>by
  simp only[List.flatten_cons,azG,azL,h r (by simp),xQ rows (fun q hq=>h q (by simp[hq]))];grind
theorem yH(w:World)(t e:TypeId)(ie:TypeInfo)(hu:P.underlying t=some (.slice e))(Zo:P.info? e=some ie):
  (Instr.buildSlice t 0 #[]).run P w=.ok (.slice (some ⟨w.heap.size,0,none⟩) 0 0) (w.alloc (.cells #[] e)):=by
 have h0:∀f:Nat→Value,Array.map f (Array.range 0)=#[]:=fun f=>aCl (by simp)
 simp[Instr.buildSlice,run_underlying hu,sizeOf,typeInfo,Zo,Instr.fill,newRow,h0]
theorem RB.buildSlice(R:RB w0 I A0 n s a w β A){t e:TypeId}(he:dC P t=some e){len:Nat}{parts:List (Nat×V)}{cparts:Array (Nat×Value)}
  (aqi:parts.map (·.1)=List.range len) (ayb:len*aq P e≤2 ^ 24) (dr:0<aq P e) (hz:(eX P e).isSome)
  (hl:cparts.size=parts.length) (hp:∀(i:Nat) (q:Nat×V),parts[i]? = some q→∃u,cparts[i]? = some (q.1,u)∧Rel ⟨w,A,s.h,β⟩ q.2 u)
  (wu:∀q∈parts,q.2.fC s.h∧q.2.cells.length=aq P e) (d:Nat) (hd:d<n) :
  ∃r w',(Instr.buildSlice t len cparts).run P w=.ok r w'∧RRf w0 I A0 n (s.new d ⟨e,aq P e,!(parts.all (·.2.pure)),parts.map (·.2.cells)⟩ (.ref d (parts.map (·.2.cells)).length)) (a.put (some d) r) w' d:=by
 have hu:=fS he;obtain⟨zz,TN⟩:=aA1.1 hz;obtain⟨ti,zv,ra,P6,P7,hzc⟩:=eW TN;have dO:ti.size=aq P e:=by grind[aq]
 have hlen:parts.length=len:=by have:=azT List.length aqi;grind
 have Kc:=hzc ⟨w,A,s.h,β⟩;have hzl:zz.length=aq P e:=by have:=Kc.1;grind
 generalize hb:(!(parts.all (·.2.pure)))=b;have Nj:∀(i:Nat) (q:Nat×V),parts[i]? = some q→∃u,cparts.toList[i]? = some (q.1,u)∧Cells ⟨w,A,s.h,β⟩ b q.2.cells u.cells.toList:=by
  intro i q hq;obtain⟨u,h1,h2⟩:=hp i q hq;refine⟨u,by simpa using h1,(Cells.FO h2 (wu q (azO hq)).1).weaken b fun hbf=>?_⟩;grind
 obtain⟨cs0,aqo⟩:∃cs0,cs0=(List.range (len*aq P e)).map fun j=>zz.getD (j % aq P e) .dead:=⟨_,rfl⟩
 have rX:cs0.length=len*aq P e:=by simp[aqo]
 have aiv:=BW (es:=aq P e) parts 0 cs0 (by rw[aqi,hlen,List.range_eq_range']) (fun q hq=>(wu q hq).2) (by grind);have hfl:(cs0.take (0*aq P e)++(parts.map (·.2.cells)).flatten++cs0.drop ((0+parts.length)*aq P e))=(parts.map (·.2.cells)).flatten:=by
  grind
 rw[hfl]at aiv;have hzero:Cells ⟨w,A,s.h,β⟩ b cs0 ((Array.range (len*ti.size)).map (zv.cells[· % zv.cells.size]!)).toList:=by
  refine⟨by simp[rX,dO],fun i x hx=>?_⟩;have hi:i<len*aq P e:=by grind
  have hm:i % aq P e<zz.length:=by rw[hzl];exact Nat.mod_lt _ dr
  rw[aqo]at hx;simp[hi,hm]at hx;obtain⟨u,u1,u2,u3,u4⟩:=Kc.2 (i % aq P e) x (by grind);grind
 obtain⟨bS,g1,g2⟩:=s9 (E:=⟨w,A,s.h,β⟩) (imp:=b) (place':=fun i=>some (i*ti.size,ti.size)) (fun i q hq=>by rw[dO];exact hq) parts cparts.toList cs0 _ _ (by grind) Nj hzero aiv;have Em:∀r∈parts.map (·.2.cells),r.length=aq P e:=by
  grind
 have hvl:bS.size=len*aq P e:=by
  have:=g2.1;rw[xQ _ Em]at this;grind
 have iX:(Instr.buildSlice t len cparts).run P w=.ok (.slice (some ⟨w.heap.size,0,none⟩) len len) (w.alloc (.cells bS e)):=by
  rcases Nat.eq_zero_or_pos len with h0 | h0
  ·subst h0
   have hv0:bS=#[]:=aCl (by grind);have hp0:cparts=#[]:=aCl (by grind);grind[yH]
  ·exact run_buildSlice (P:=P) w t e len cparts bS ti zv hu ra P6 (by grind) (by rw[dO];exact Nat.ne_of_gt (Nat.mul_pos h0 dr)) g1
 refine⟨_,_,iX,_,_,R.new d hd ⟨e,aq P e,b,parts.map (·.2.cells)⟩ bS (w.alloc (.cells bS e)) rfl ⟨rfl,rfl,rfl⟩ Em ?_ ?_ _ _ (.inr ⟨rfl,len,?_,?_,?_,hvl⟩),fun b h=>by simp at h;subst h;exact R.ev.size⟩
 ·grind
 ·intro i row hi j x hx
  obtain⟨u,h1,h2,h3,h4⟩:=g2.2 _ x (xR _ Em i row hi j x hx);grind
 ·simp[hlen]
 ·simp[hlen]
 ·simp only[maxLen]
  have:len≤len*aq P e:=Nat.le_mul_of_pos_right _ dr;omega
theorem RB.makeSlice(R:RB w0 I A0 n s a w β A){t e:TypeId}(he:dC P t=some e){zz:List V}(TN:eX P e=some zz)(dr:0<aq P e)(kl kc:IntKind)(l c:Int)
  (h0:0≤l) (hlc:l≤c) (V4:(bytesOf P e:Int)*c≤140737488355328) (hc:c≤9223372036854775807) (d:Nat) (hd:d<n) :
  ∃r w',(Instr.makeSlice t (.int kl l) (.int kc c)).run P w=.ok r w'∧RRf w0 I A0 n (s.new d ⟨e,aq P e,false,List.replicate l.toNat zz⟩ (.ref d (List.replicate l.toNat zz).length)) (a.put (some d) r) w' d:=by
 have hu:=fS he;obtain⟨ti,zv,ra,P6,P7,hzc⟩:=eW TN;have dO:ti.size=aq P e:=by grind[aq]
 have hbb:bytesOf P e=ti.bytes:=by grind[bytesOf]
 have Kc:=hzc ⟨w,A,s.h,β⟩;have hzl:zz.length=aq P e:=by have:=Kc.1;grind
 rw[hbb]at V4;have iX:=run_make (P:=P) w t e ti zv hu ra P6 kl kc l c h0 hlc (by omega) hc;refine⟨_,_,iX,_,_,R.new d hd ⟨e,aq P e,false,List.replicate l.toNat zz⟩ (madeCells zv.cells (c.toNat*ti.size)) (w.alloc (.cells (madeCells zv.cells (c.toNat*ti.size)) e)) rfl ⟨rfl,rfl,rfl⟩ ?_ ?_ ?_ _ _ (.inr ⟨rfl,c.toNat,?_,?_,?_,?_⟩),fun b h=>by simp at h;subst h;exact R.ev.size⟩
 ·grind
 ·simp only[aCa,size_madeCells,dO]
  exact aAh _ (by omega)
 ·intro i row hi j x hx
  have nB:i<l.toNat:=by grind
  have aK:row=zz:=by
   grind
  subst aK;have hj:j<aq P e:=by grind
  obtain⟨u,u1,u2,u3,u4⟩:=Kc.2 j x hx;refine⟨u,?_,u2,u3,fun _=>u4 rfl⟩;have iH:i*aq P e+j<c.toNat*aq P e:=by
   have h1:(i+1)*aq P e≤c.toNat*aq P e:=aAh _ (by omega);grind
  have hm:(i*aq P e+j) % aq P e=j:=by rw[aBo,Nat.mul_add_mod];exact aAJ hj
  have hm2:j<zv.cells.size:=by grind
  simp only[madeCells,dO,P7];grind
 ·simp
 ·simp;omega
 ·simp only[maxLen];omega
 ·simp[size_madeCells,dO]
theorem ahl(R:RB w0 I A0 n s a w β A)(o:Oper){p:Prop}{ob:Ob}{isRef:Bool}(h:gH P o s.ev s.h=.new p ob isRef)(hp:p)(d:Nat)(aub:o.dst=some d)(hd:d<n):
  ∃u w',(execOp a.eval o).run P w=.ok (.value u) w'∧RRf w0 I A0 n (s.new d ob (if isRef then .ref d ob.rows.length else .ptr d ob.rows.length 0 0)) (a.put o.dst u) w' d:=by
 have bm:=kB R.au;rw[aub];obtain⟨dst,op,ty,pos,after,guard⟩:=o;unfold gH at h;simp only at h
 split at h<;>try trivial
 ·
  grind
 ·
  rename_i t;unfold mY at h
  split at h<;>try trivial
  rename_i z hz
  split at h
  ·split at h<;>try trivial
   rename_i Zx;simp only[AR.new.injEq]at h;obtain⟨rfl,rfl,rfl⟩:=h;obtain⟨ti,zv,ra,P6,P7,hzc⟩:=eW hz;refine⟨_,_,?_,R.arr (v:=zv) (hzc ⟨w,A,s.h,β⟩) Zx.2.2 d hd⟩;simp[execOp,Instr.alloc,zeroValue,typeInfo,ra,P6,newVar,newRow]
  simp only[AR.new.injEq]at h;obtain⟨rfl,rfl,rfl⟩:=h;obtain⟨ti,zv,ra,P6,P7,hzc⟩:=eW hz;have Kc:=hzc ⟨w,A,s.h,β⟩;refine⟨_,_,?_,R.one (v:=zv) Kc (by have:=Kc.1;simp at this;omega) d hd⟩;simp[execOp,Instr.alloc,zeroValue,typeInfo,ra,P6,newVar,newRow]
 ·
  rename_i t x;simp only[AR.new.injEq]at h;obtain⟨rfl,rfl,rfl⟩:=h;have hc:=Cells.FO (bm x) hp.1;refine⟨_,_,?_,R.one (v:=a.eval x) hc hp.2 d hd⟩;simp[execOp,Instr.box,newVar,newRow]
 ·
  grind[iL]
 ·
  rename_i t len parts;unfold cW at h
  split at h<;>try trivial
  rename_i e he
  split at h<;>try trivial
  rename_i Zx;simp only[AR.new.injEq]at h;obtain⟨rfl,rfl,rfl⟩:=h;obtain⟨c1,c3,c4,c5⟩:=Zx;obtain⟨r,w',hr,hR⟩:=R.buildSlice (P:=P) (cparts:=parts.map fun q=>(q.1,a.eval q.2)) he c1 c3 c4 c5 (by simp) (fun i q hq=>by
   grind) hp d hd
  exact⟨r,w',hT hr,hR⟩
 ·
  split at h<;>try trivial
  unfold iy at h
  split at h<;>try trivial
  all_goals grind[fF]
 ·
  split at h<;>try trivial
  unfold fh at h
  grind
 ·grind
 ·grind
 ·grind
 ·grind
 ·
  grind[ez]
 ·unfold dd at h
  grind
 ·unfold kH at h
  grind
 ·split at h
  ·unfold dG at h
   grind
  ·unfold dZ at h
   grind
  ·unfold dy at h
   grind
 ·grind
 ·grind
 ·grind
 ·
  rename_i c;obtain⟨callee,args,argTypes⟩:=c;unfold fi at h;simp only at h
  split at h<;>try trivial
  ·grind
  ·grind
  ·split at h<;>try trivial
   rename_i x y t t' cZ Y2
   split at h<;>try trivial
   rename_i htt;subst htt;unfold dM at h
   split at h<;>try trivial
   rename_i e new he bF
   split at h<;>try trivial
   rename_i hz
   split at h<;>try trivial
   ·rename_i gp
    simp only[AR.new.injEq]at h;obtain⟨rfl,rfl,rfl⟩:=h;have hx:=bm x;rw[gp]at hx;have P8:a.eval x=.slice none 0 0:=by generalize a.eval x=u at hx;cases hx;rfl
    have hm:args.map a.eval=#[.slice none 0 0,a.eval y]:=by
     apply aA3;simp_all
    have hmt:argTypes=#[t,t]:=by grind
    simp only[not_or]at hz;obtain⟨r,w',hr,hR⟩:=R.UD (P:=P) he (by omega) (Option.isSome_iff_ne_none.2 (by grind)) (bm y) bF hp.1 hp.2.1 hp.2.2 ty d hd;refine⟨r,w',?_,hR⟩;simp only[execOp,resolve,invoke,builtin,hm,hmt,Sem.run_bind,Sem.run_pure,Result.andThen_ok,hr]
   grind
  all_goals grind
 ·
  rename_i t l c;unfold nu at h
  split at h<;>try trivial
  rename_i e kl nl kc nc he hl hc
  split at h<;>try trivial
  rename_i zz TN
  split at h<;>try trivial
  rename_i dr;simp only[AR.new.injEq]at h;obtain⟨rfl,rfl,rfl⟩:=h;obtain⟨c1,c2,c3,c4⟩:=hp;have h1:=bm l;have h2:=bm c;rw[hl]at h1;rw[hc]at h2;have e1:a.eval l=.int kl nl:=by generalize a.eval l=u at h1;cases h1;rfl
  have e2:a.eval c=.int kc nc:=by generalize a.eval c=u at h2;cases h2;rfl
  obtain⟨r,w',hr,hR⟩:=R.makeSlice (P:=P) he TN dr kl kc nl nc c1 c2 c3 c4 d hd;refine⟨r,w',?_,hR⟩;simp only[execOp,e1,e2];grind[hT]
end
end Go.AL
