/-
  THE EXECUTOR, TENTH PART: what the texts of single functions use. By an AI agent.
-/
import Derived.Test.YtmdmmikpmhopkaaAxLaw
import Derived.KernelRfl
set_option linter.unusedVariables false
set_option linter.unusedSimpArgs false
namespace Go.AL
def pmT : List (Nat × (List (Nat × List Nat) × List (Nat × Nat))) → PM
 | [],_ => ([],[])
 | (i,x) :: r,j => bif Nat.beq j i then x else pmT r j
def ldT : List (Nat × LD) → Nat → LD
 | [],_ => ⟨[],[],0⟩
 | (i,x) :: r,j => bif Nat.beq j i then x else ldT r j
def ldTL (n : Nat) : List (Nat × LD) → Nat → LD
 | [],_ => ⟨[],[],n⟩
 | (i,x) :: r,j => bif Nat.beq j i then x else ldTL n r j
theorem ldTL_ln {n : Nat} : ∀ {l : List (Nat × LD)},l.all (fun q => Nat.beq q.2.ln n) = true → ∀ b,(ldTL n l b).ln = n
 | [],_,b => rfl
 | (i,x) :: r,h,b => by
  obtain ⟨h1,h2⟩ := Bool.and_eq_true_iff.1 (show (Nat.beq x.ln n && r.all fun q => Nat.beq q.2.ln n) = true from h)
  simp only [ldTL]
  cases Nat.beq b i
  ·exact ldTL_ln h2 b
  ·exact Nat.eq_of_beq_eq_true h1
def bodyOf (f : Func) : Code := match f.body with
 | some c => c
 | none => .skip
def orElseL (a : List XI) (b : List XI) : List XI := match a with
 | [] => b
 | _ => a
def findHead (id : Nat) : Nat → List XI → List XI
 | 0,_ => []
 | _ + 1,[] => []
 | f + 1,.code c :: k => match c with
  | .seq x y => findHead id f (.code x :: .code y :: k)
  | .cond _ x y => orElseL (findHead id f (.code x :: k)) (findHead id f (.code y :: k))
  | .block i x => orElseL (findHead id f (.code x :: .inBlock i :: k)) (findHead id f k)
  | .scope x => findHead id f (.code x :: k)
  | .loop body => bif Nat.beq (labOf k) id then .head body :: k else findHead id f (.code body :: .head body :: k)
  | .exit _ => []
  | .ret => []
  | _ => findHead id f k
 | _ + 1,.head _ :: _ => []
 | _ + 1,.inBlock _ :: _ => []
 | f + 1,_ :: k => findHead id f k
def headOf (fn : Func) (id : Nat) : List XI := findHead id 10000 [.code (bodyOf fn)]
def EsOk (P : Program) (es : List Ent) (el : List EntL := []) (il : List InlD := []) : Prop := (∀ e ∈ es,e.Ok P) ∧ (∀ e ∈ el,e.Ok P) ∧ ∀ d ∈ il,d.Ok P
theorem es_nil {P : Program} : EsOk P [] := ⟨fun e h => (by cases h),fun e h => (by cases h),fun e h => (by cases h)⟩
theorem es_cons {P : Program} {e : Ent} {es : List Ent} {el : List EntL} {il : List InlD} (h : e.Ok P) (hs : EsOk P es el il) : EsOk P (e :: es) el il := ⟨fun x hx => by
 rcases List.mem_cons.1 hx with rfl | hx
 ·exact h
 ·exact hs.1 x hx,hs.2⟩
theorem el_cons {P : Program} {e : EntL} {es : List Ent} {el : List EntL} {il : List InlD} (h : e.Ok P) (hs : EsOk P es el il) : EsOk P es (e :: el) il := ⟨hs.1,fun x hx => by
 rcases List.mem_cons.1 hx with rfl | hx
 ·exact h
 ·exact hs.2.1 x hx,hs.2.2⟩
theorem il_cons {P : Program} {d : InlD} {es : List Ent} {el : List EntL} {il : List InlD} (h : d.Ok P) (hs : EsOk P es el il) : EsOk P es el (d :: il) := ⟨hs.1,hs.2.1,fun x hx => by
 rcases List.mem_cons.1 hx with rfl | hx
 ·exact h
 ·exact hs.2.2 x hx⟩
theorem inl_ok {P : Program} {d : InlD} {fn : Func} (hf : P.funcs[d.g]? = some fn) (hb : fn.body = some d.c) (hn : fn.ntmps = d.n) (hr : fn.results.toList = d.rs) (hp : codeOK d.pm d.c = true) : d.Ok P := ⟨⟨fn,hf,hb,hn,hr⟩,hp⟩
end Go.AL
