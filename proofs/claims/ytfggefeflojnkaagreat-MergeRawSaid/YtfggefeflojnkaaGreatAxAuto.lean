/- By an AI agent. -/
import Derived.Test.YtfggefeflojnkaaGreatAxKit
import Derived.IntWalk
set_option linter.unusedSimpArgs false
namespace Go.AL
def p2(k:Int):Int:=2 ^ k.toNat
theorem AJ(k:Int):0<p2 k:=Int.pow_pos (by omega)
theorem QJ{j k:Int}(h:j≤k):p2 j≤p2 k:=by
 unfold p2;have h1:j.toNat≤k.toNat:=by omega
 have h2:(2:Nat) ^ j.toNat≤2 ^ k.toNat:=Nat.pow_le_pow_right (by omega) h1
 exact_mod_cast h2
theorem asd{k:Int}(h:k≤62):p2 k≤4611686018427387904:=by
 have:=QJ h;rwa [show p2 62=4611686018427387904 from by decide]at this
theorem QK{k:Int}(h:k≤40):p2 k≤1099511627776:=by
 have:=QJ h;rwa [show p2 40=1099511627776 from by decide]at this
theorem aN{n:Int}(h : -9223372036854775808≤n)(h':n≤9223372036854775807):IntKind.i64.wrap n=n:=IntWalk.i64_in n ⟨h,h'⟩
theorem ML{n:Int}(h:0≤n)(h':n≤18446744073709551615):IntKind.u64.wrap n=n:=IntWalk.u64_in n ⟨h,h'⟩
theorem sh1{k:Int}(h:0≤k)(h':k≤62):IntKind.i64.wrap (1*2 ^ min k.toNat IntKind.i64.bits)=p2 k:=by
 have h1:min k.toNat IntKind.i64.bits=k.toNat:=Nat.min_eq_left (by show _≤64;omega);rw[h1,Int.one_mul];have:=AJ k;have:=asd h';exact aN (by show _≤p2 k;omega) (by show p2 k≤_;omega)
theorem sd{α:Type}{p:Prop}[Decidable p]{x y:α}(h:p):(bif decide p then x else y)=x:=by simp[h]
theorem nA{α:Type}{p:Prop}[Decidable p]{x y:α}(h:¬ p):(bif decide p then x else y)=y:=by simp[h]
theorem cL{α:Type}(l:List α)(x:α)(r:List α)(d:α):(l++x::r).getD (Int.toNat ((l.length:Nat):Int)) d=x:=by
 simp[aDB]
theorem ei{α:Type}(l:List α)(x:α)(r:List α):decide (((l.length:Nat):Int)<(((l++x::r).length:Nat):Int))=true:=by
 simp;omega
theorem cB(n:Nat):decide ((0:Int)≤((n:Nat):Int))=true:=by simp
theorem w9{α:Type}(l:List α):decide (((l.length:Nat):Int)<(((l++[]).length:Nat):Int))=false:=by
 simp
def cj{ρ:Type}(T:Nat→Option ρ)(p:Bool)(x:ρ):Prop:=p=true→∃f,T f=some x
def ER{A B:Type}(v:A)(p:A×B):A×B:=(v,p.2)
def bP{A B:Type}(g:B→B)(p:A×B):A×B:=(p.1,g p.2)
def upS{A B:Type}(v:B)(p:A×B):A×B:=(p.1,v)
section
variable {ρ:Type} {A B T L:Nat→Option ρ} {c p q:Bool} {x y:ρ}
theorem ae:cj (fun _=>some x) true x:=fun _=>⟨0,rfl⟩
theorem aw(ha:cj A p x)(hb:cj B q y):cj (fun f=>bif c then A f else B f) (bif c then p else q) (bif c then x else y):=by cases c;exact hb;exact ha
theorem aT(ha:cj A true x)(hb:cj B true y):cj (fun f=>bif c then A f else B f) true (bif c then x else y):=by cases c;exact hb;exact ha
theorem aE(ha:cj A p x):cj (fun f=>bif c then A f else none) (c&&p) x:=by
 cases c
 ·intro h;cases h
 ·exact ha
theorem dA(ha:cj A true x):cj (fun f=>bif c then A f else none) c x:=by
 cases c
 ·intro h;cases h
 ·exact ha
theorem bC(h:c=true→cj A p x):cj A (c&&p) x:=fun hp=>h (aC7.1 hp).1 (aC7.1 hp).2
theorem ah(h:∀f,L (f+1)=T f)(e:cj T p x):cj L p x:=fun hp=>(e hp).elim fun f hf=>⟨f+1,(h f).trans hf⟩
end
section
variable {α:Type} {l r:List α} {u v:α} {k:Nat}
theorem ag(h:l.drop k=u::r):k<l.length:=by
 rcases aDA k l.length with h1 | h1
 ·exact h1
 ·rw[aEQ h1]at h;cases h
theorem aY(h:l.drop k=[]):¬ k<l.length:=by
 have:=List.drop_eq_nil_iff.1 h;omega
theorem aq(h:l.drop k=u::r):l.drop (k+1)=r:=by
 rw[← aEr,h];rfl
theorem rV(h:l.drop k=u::r):l[k]? = some u:=by
 have:=aDQ (xs:=l) (i:=k) (j:=0);rw[h]at this;simpa using this.symm
theorem aI(h:l.drop k=u::r)(z:α):l.getD (Int.toNat ((k:Nat):Int)) z=u:=by
 rw[aC8,aDB,rV h];rfl
theorem au(h:l.drop (k+1)=r):(l.set (Int.toNat ((k:Nat):Int)) v).drop (k+1)=r:=by
 rw[aC8,List.drop_set_of_lt (by omega)];exact h
theorem drop_set(h:l.drop k=u::r):(l.set (Int.toNat ((k:Nat):Int)) v).drop (k+1)=r:=au (aq h)
theorem aR(h:k<l.length)(z:α):(l.set (Int.toNat ((k:Nat):Int)) v).getD (Int.toNat ((k:Nat):Int)) z=v:=by
 rw[aC8,aDB,aD4 h];rfl
theorem bl(h:k<l.length):decide (((k:Nat):Int)<((l.length:Nat):Int))=true:=aCm (by omega)
theorem bW(h:¬ k<l.length):decide (((k:Nat):Int)<((l.length:Nat):Int))=false:=aCz (by omega)
theorem iO{n:Int}(hn:n=((l.length:Nat):Int))(h:k<l.length):decide (((k:Nat):Int)<n)=true:=aCm (by omega)
theorem iR{n:Int}(hn:n=((l.length:Nat):Int))(h:¬ k<l.length):decide (((k:Nat):Int)<n)=false:=aCz (by omega)
theorem aM(h:k<l.length)(hl:l.length≤1099511627776):IntKind.i64.wrap (((k:Nat):Int)+1)=((k+1:Nat):Int):=by
 rw[aN (by omega) (by omega)];rfl
end
theorem Bx{P:Program}{g:FuncId}{τ:List Ty}{t es:Nat}
  {B:Nat} (ec:∀a:List (az τ),0<a.length→a.length≤B→∀vs,cE [.rd τ] a vs→Ew P g vs (cw [.o t es τ] a))
  (uU:Ew P g [V.de (.slice none 0 0)] (cw [.o t es τ] ([]:List (az τ))))
  (NK:∀(b:Addr) (c:Nat),Ew P g [V.de (.slice (some b) 0 c)] (cw [.o t es τ] ([]:List (az τ)))) :
  ∀a:List (az τ),a.length≤B→∀vs,cE [.rd τ] a vs→Ew P g vs (cw [.o t es τ] a):=by
 intro a ha vs hv;cases a with
 | cons x a=>exact ec _ (by simp) ha vs hv
 | nil=>
  simp only[cE,et,j4]at hv;obtain⟨v,rfl,rows,rfl,hr⟩:=hv;cases rows with
  | cons r rows=>exact hr.elim
  | nil=>
   refine⟨uU.1,fun w A vs hA dC hrel=>?_⟩;obtain⟨u,hu,FF⟩:=hrel 0 (.rd []) rfl;have one:∀v:Value,v.oneCell'=true→u=v→∀(i:Nat) (x:V),[V.de v][i]? = some x→∃u,vs[i]? = some u∧Rel ⟨w,A,fY,iF⟩ x u:=by
    rintro v hv1 rfl i x hx;cases i with
    | zero=>cases hx;exact⟨u,hu,Rel.aU (gW u hv1)⟩
    | succ i=>simp at hx
   rcases FF with⟨⟨a,rfl⟩,_⟩ | ⟨b,off,cap,es,f,rfl,_⟩
   ·cases a with
    | none=>exact uU.2 w A vs hA dC (one _ rfl rfl)
    | some b=>exact(NK b 0).2 w A vs hA dC (one _ rfl rfl)
   ·exact(NK ⟨b,off,none⟩ cap).2 w A vs hA dC (one _ rfl rfl)
theorem U8{n b:Nat}(h0:0<n)(h:n≤1099511627776)(hb:b≤128){α:Type}{x y:Option α}:(bif decide (0<n)&&true then bif decide ((([]:List Nat).length+n)*b≤140737488355328)then x else y else y)=x:=by
 rw[aCT,sd h0,sd];simp only[aCB,aC0];exact aCO (Nat.mul_le_mul h hb) (by decide)
theorem xY{n b:Nat}(h0:0<n)(h:n≤68719476736)(hb:b≤2048){α:Type}{x y:Option α}:(bif decide (0<n)&&true then bif decide ((([]:List Nat).length+n)*b≤140737488355328)then x else y else y)=x:=by
 rw[aCT,sd h0,sd];simp only[aCB,aC0];exact aCO (Nat.mul_le_mul h hb) (by decide)
def xd{α:Type}(l:List α):Bool:=decide (l.length≤68719476736)
def af{α:Type}(l:List α):Bool:=decide (l.length≤1099511627776)
theorem bm{A R:Type}{M:Nat→A→Option R}{P:A→Bool}{F:A→R}{pre:A→Bool}{spec:A→R}(h:∀a,cj (fun f=>M f a) (P a) (F a))(hp:∀a,pre a=true→P a=true)(hf:∀a,pre a=true→F a=spec a)(a:A)(ha:pre a=true):∃f,M f a=some (spec a):=by
 have h1:=h a (hp a ha);rw[hf a ha]at h1;exact h1
theorem eB{C:cR}{Lt:Nat→LD}{g:FuncId}{fn:Func}{c:Code}{rs:List ResultVar}{ad:List AK}{rk:List RK}{pre:dE ad→Bool}{sp:dE ad→aA rk}(hm:C.P.follows .mixedOrders=true)(bQ:(∀e∈C.es,e.Ok C.P)∧(∀e∈C.el,e.Ok C.P)∧∀d∈C.inl,d.Ok C.P)
  (hf:C.P.funcs[g]? = some fn) (hb:fn.body=some c) (hn:fn.ntmps=C.n) (hr:fn.results.toList=rs) (hl:Nat.ble ad.length C.n=true) (hc:fA C.pm c=true) (h:∀a,pre a=true→∃f,aG C Lt (aQ C.P rs rk) f [.code c] (aV ad a)=some (sp a)):db.Ok C.P ⟨g,ad,rk,pre,sp⟩:=
 fun a hp vs hv=>(h a hp).elim fun f h=>iB ad rk hm bQ hf hb hn hr hl hc f h vs hv
end Go.AL
