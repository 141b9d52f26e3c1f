/-
  THE EXECUTOR, SECOND PART: what an operation does to symbolic values. By an AI agent.
-/
import Derived.Test.YtbhnmholmpdmeaaGreatAxTy
namespace Go.AL
set_option linter.unusedVariables false
set_option linter.unusedSimpArgs false
set_option linter.unusedSectionVars false

inductive XAR where
  | val (c : Bool) (x : X)
  | new (c : Bool) (ob : XOb) (isRef : Bool)
  | upd (c : Bool) (o : Nat) (ob : XOb)
  | app (c : Bool) (o : Nat) (ob : XOb)
  | call (f : FuncId) (args : List X)
  | bad

def X.ofCell : Value → X
  | .int k n => .int k n
  | .bool b => .bool b
  | .string s => .str s
  | .slice none 0 0 => .nil
  | v => if v.oneCell' then .raw v else .dead
def X.ofVal : Value → X
  | .agg cs => if cs.toList.all (·.oneCell') then .agg false (cs.toList.map X.ofCell) else .dead
  | v => .ofCell v
def XSt.ev (s : XSt) : Operand → X
  | .tmp i => bif Nat.blt i 100000 then s.t i else .dead
  | .const v => .ofVal v
  | .func f => .fn f []
  | .global _ => .dead

def rowTyF (rec : TypeId → Option (List Ty)) : List Field → Nat → Option (List Ty)
  | [], _ => some []
  | f :: fs, off => match Nat.beq f.offset off with
    | true => (match rec f.type with
      | some τ => (match rowTyF rec fs (off + τ.length) with
        | some r => some (τ ++ r)
        | none => none)
      | none => none)
    | false => none
def rowTy (P : Program) : Nat → TypeId → Option (List Ty)
  | 0, _ => none
  | d + 1, t => match P.underlying t with
    | some .bool => some [.bool]
    | some .string => some [.str]
    | some (.int k) => some [.int k]
    | some (.slice e) => (match rowTy P d e with
      | some (c :: r) => some [.sl (c :: r)]
      | _ => none)
    | some (.struct fs) => (match rowTyF (rowTy P d) fs.toList 0 with
      | some τ => (match Nat.beq τ.length (P.cellsOf t) with
        | true => some τ
        | false => none)
      | none => none)
    | _ => none

def zeroX (P : Program) (t : TypeId) : Option (List X) :=
  match (P.info? t).bind (·.zero) with
  | some v => if v.cells.toList.all (·.oneCell') && v.cells.size == szOf P t then some (v.cells.toList.map X.ofCell) else none
  | none => none

def X.pure : X → Bool
  | .int .. | .bool _ | .str _ | .nil | .sl .. | .raw _ => true
  | .agg imp _ => !imp
  | _ => false
def X.cells : X → List X
  | .agg _ cs => cs
  | x => [x]

def curO (h : Nat → Option XOb) (o ver : Nat) : Bool := match h o with
  | some ob => Nat.beq ob.ver ver
  | none => false
def X.stor (h : Nat → Option XOb) : X → Bool
  | .int .. | .bool _ | .str _ | .nil | .sl .. | .rd .. | .raw _ | .agg .. => true
  | .ref o v => curO h o v
  | .ptr o v _ _ => curO h o v
  | _ => false
def cutX (row : List X) (j n : Nat) : List X := (row.drop j).take n
def putX (row : List X) (j : Nat) (cs : List X) : List X := row.take j ++ cs ++ row.drop (j + cs.length)

def fillX (place : Nat → Option (Nat × Nat)) : List X → List (Nat × X) → Option (List X)
  | cs, [] => some cs
  | cs, (i, v) :: rest => match place i with
    | none => none
    | some (off, size) => if v.cells.length = size ∧ off + v.cells.length ≤ cs.length then fillX place (putX cs off v.cells) rest else none

def eqXs : List X → List X → Option Bool
  | [], [] => some true
  | .int k a :: xs, .int k' b :: ys => if k = k' then (eqXs xs ys).map (a == b && ·) else none
  | .bool a :: xs, .bool b :: ys => (eqXs xs ys).map (a == b && ·)
  | _, _ => none
def kindX : X → Option Bool
  | .int .. => some true
  | .bool _ => some false
  | _ => none
def kindsEq : List Bool → List Bool → Bool
  | [], [] => true
  | a :: as, b :: bs => (a == b) && kindsEq as bs
  | _, _ => false
def eqShX (P : Program) (t : TypeId) (xs : List X) : Bool := match eqSh P t with
  | some m => kindsEq m (xs.filterMap kindX)
  | none => false

def intX (op : BinOp) (k : IntKind) (a b : Int) : Option (Bool × X) :=
  match op with
  | .add => some (true, .int k (k.wrap (a + b)))
  | .sub => some (true, .int k (k.wrap (a - b)))
  | .mul => some (true, .int k (k.wrap (a * b)))
  | .quo => some (b != 0, .int k (k.wrap (a.tdiv b)))
  | .rem => some (b != 0, .int k (a.tmod b))
  | .and => some (true, .int k (k.wrap ((BitVec.ofInt k.bits a &&& BitVec.ofInt k.bits b).toNat)))
  | .or => some (true, .int k (k.wrap ((BitVec.ofInt k.bits a ||| BitVec.ofInt k.bits b).toNat)))
  | .eql => some (true, .bool (a == b))
  | .neq => some (true, .bool (a != b))
  | .lss => some (true, .bool (decide (a < b)))
  | .leq => some (true, .bool (decide (a ≤ b)))
  | .gtr => some (true, .bool (decide (a > b)))
  | .geq => some (true, .bool (decide (a ≥ b)))
  | _ => none
def shiftX (op : BinOp) (k : IntKind) (a b : Int) : Option (Bool × X) :=
  match op with
  | .shl => some (decide (0 ≤ b), .int k (k.wrap (a * 2 ^ (min b.toNat k.bits))))
  | .shr => some (decide (0 ≤ b), .int k (a.fdiv (2 ^ (min b.toNat k.bits))))
  | _ => none
def isBoolT (P : Program) (t : TypeId) : Bool := match P.underlying t with
  | some .bool => true
  | _ => false
def nilX (P : Program) (op : BinOp) (t : TypeId) (p b : Bool) : Option (Bool × X) := match op with
  | .eql => some (p && (elemT P t).isSome, .bool b)
  | .neq => some (p && (elemT P t).isSome, .bool (!b))
  | _ => none
def binX (P : Program) (op : BinOp) (t : TypeId) (x y : X) : Option (Bool × X) :=
  match x, y with
  | .int k a, .int k' b => if isShift op then shiftX op k a b else if k = k' then intX op k a b else none
  | .bool a, .bool b => match op with
    | .eql => some (isBoolT P t, .bool (a == b))
    | .neq => some (isBoolT P t, .bool (a != b))
    | _ => none
  | .agg false xs, .agg false ys => match op with
    | .eql => (eqXs xs ys).map fun b => (isRowT P t && eqShX P t xs, .bool b)
    | .neq => (eqXs xs ys).map fun b => (isRowT P t && eqShX P t xs, .bool (!b))
    | _ => none
  | .nil, .nil => nilX P op t true true
  | .rd _ l, .nil => nilX P op t (decide (0 < l.length)) false
  | .raw (.slice (some _) _ _), .nil => nilX P op t true false
  | _, _ => none

def xloadR (P : Program) (t : TypeId) (imp : Bool) (row : List X) (j : Nat) : XAR :=
  if isRowT P t then .val (decide (j + szOf P t ≤ row.length)) (.agg imp (cutX row j (szOf P t)))
  else if (P.underlying t).isSome then match row[j]? with
    | some x => if imp || x.pure then .val true x else .bad
    | none => .bad
  else .bad

def xload (P : Program) (h : Nat → Option XOb) (t : TypeId) : X → XAR
  | .ptr o ver i j => match h o with
    | some (.t v _ _ τ l) => if Nat.beq v ver then xloadR P t false (rowX τ (l.getD i (rowZ τ))) j else .bad
    | some (.u v _ _ imp rows) => if Nat.beq v ver then match rows[i]? with
      | some row => xloadR P t imp row j
      | none => .bad
      else .bad
    | none => .bad
  | .cp row j => xloadR P t false row j
  | _ => .bad

def xstore (P : Program) (h : Nat → Option XOb) (t : TypeId) (x y : X) : XAR :=
  match x with
  | .ptr o ver i j => match h o with
    | some (.t v ty es τ l) => if Nat.beq v ver && y.pure then match rowD τ (putX (rowX τ (l.getD i (rowZ τ))) j y.cells) with
        | some r => .upd (decide (y.cells.length = szOf P t) && decide (j + y.cells.length ≤ τ.length)) o (.t v ty es τ (l.set i r))
        | none => .bad
      else .bad
    | some (.u v ty es imp rows) => if Nat.beq v ver then match rows[i]? with
        | some row => .upd (y.stor h && decide (y.cells.length = szOf P t) && decide (j + y.cells.length ≤ row.length)) o (.u v ty es (imp || !y.pure) (rows.set i (putX row j y.cells)))
        | none => .bad
      else .bad
    | none => .bad
  | _ => .bad

def xbuild (P : Program) (h : Nat → Option XOb) (t : TypeId) (parts : List (Nat × X)) : XAR :=
  if placesOK P t then match zeroX P t with
    | some z => match fillX (fun i => (fieldOf P t i).map fun f => (f.1, szOf P f.2)) z parts with
      | some cs => .val (parts.all fun q => q.2.stor h) (.agg (!(parts.all (·.2.pure))) cs)
      | none => .bad
    | none => .bad
  else .bad

def mkOb (P : Program) (c e : Nat) (imp : Bool) (rows : List (List X)) : XOb := match imp with
  | true => .u c e (szOf P e) true rows
  | false => match rowTy P 8 e with
    | some τ => match rowsD τ rows with
      | some l => .t c e (szOf P e) τ l
      | none => .u c e (szOf P e) false rows
    | none => .u c e (szOf P e) false rows

def natsEq : List Nat → List Nat → Bool
  | [], [] => true
  | a :: as, b :: bs => Nat.beq a b && natsEq as bs
  | _, _ => false

def xbuildSlice (P : Program) (h : Nat → Option XOb) (c : Nat) (t : TypeId) (len : Nat) (parts : List (Nat × X)) : XAR :=
  match elemT P t with
  | some e => if natsEq (parts.map (·.1)) (List.range len) && decide (len * szOf P e ≤ 2 ^ 24) && decide (0 < szOf P e) && (zeroCs P e).isSome then
      .new (parts.all fun q => q.2.stor h && decide (q.2.cells.length = szOf P e)) (mkOb P c e (!(parts.all (·.2.pure))) (parts.map (·.2.cells))) true else .bad
  | none => .bad

def xmake (P : Program) (c : Nat) (t : TypeId) (x y : X) : XAR :=
  match elemT P t with
  | some e => match x with
    | .int _ l => match y with
      | .int _ m => match zeroX P e with
        | some z => match rowTy P 8 e with
          | some τ => match rowD τ z with
            | some r => if 0 < szOf P e then .new (decide (0 ≤ l) && (decide (l ≤ m) && (decide ((bytesOf P e : Int) * m ≤ 140737488355328) && decide (m ≤ 9223372036854775807)))) (.t c e (szOf P e) τ (List.replicate l.toNat r)) true else .bad
            | none => .bad
          | none => .bad
        | none => .bad
      | _ => .bad
    | _ => .bad
  | none => .bad

def xfieldAddr (P : Program) (h : Nat → Option XOb) (t : TypeId) (f : Nat) : X → XAR
  | .ptr o ver i j => match fieldOf P t f with
    | some (off, _) => .val (curO h o ver) (.ptr o ver i (j + off))
    | none => .bad
  | .cp row j => match fieldOf P t f with | some (off, _) => .val true (.cp row (j + off)) | none => .bad
  | _ => .bad

def xfield (P : Program) (t : TypeId) (f : Nat) : X → XAR
  | .agg false cs => match fieldOf P t f with
    | some (off, ft) => if isRowT P ft then .val (decide (off + szOf P ft ≤ cs.length)) (.agg false (cutX cs off (szOf P ft)))
      else if (P.underlying ft).isSome ∧ szOf P ft = 1 then match cs[off]? with | some x => .val true x | none => .bad
      else .bad
    | none => .bad
  | _ => .bad

def xindexAddr (P : Program) (h : Nat → Option XOb) (t : TypeId) (x ix : X) : XAR :=
  match elemT P t, ix with
  | some e, .int _ i => if szOf P e = 0 then .bad else match x with
    | .sl τ l => .val (decide (τ.length = szOf P e) && (decide (0 ≤ i) && decide (i < l.length))) (.cp (rowX τ (l.getD i.toNat (rowZ τ))) 0)
    | .rd τ l => .val (decide (τ.length = szOf P e) && (decide (0 ≤ i) && decide (i < l.length))) (.cp (rowX τ (l.getD i.toNat (rowZ τ))) 0)
    | .ref o ver => match h o with
      | some (.t v _ es τ l) => .val (Nat.beq v ver && (decide (es = szOf P e) && (decide (0 ≤ i) && decide (i < l.length)))) (.ptr o ver i.toNat 0)
      | some (.u v _ es _ rows) => .val (Nat.beq v ver && (decide (es = szOf P e) && (decide (0 ≤ i) && decide (i < rows.length)))) (.ptr o ver i.toNat 0)
      | none => .bad
    | _ => .bad
  | _, _ => .bad

def xalloc (P : Program) (c : Nat) (t : TypeId) : XAR := match zeroX P t with
  | some z => match arrOf P t with
    | some (m, e) => match rowTy P 8 e with
      | some τ => match rowsD τ (cutRows (szOf P e) m z) with
        | some l => if 0 < m ∧ 0 < szOf P e ∧ z.length = m * szOf P e then .new true (.t c t (szOf P e) τ l) false else .bad
        | none => .bad
      | none => .bad
    | none => .new true (.u c t (szOf P t) false [z]) false
  | none => .bad
def xindexArr (P : Program) (h : Nat → Option XOb) (t : TypeId) (x ix : X) : XAR :=
  match arrOf P t, ix with
  | some (m, e), .int _ i => if szOf P e = 0 then .bad else match x with
    | .ptr o ver 0 0 => match h o with
      | some (.t v _ es τ l) => .val (Nat.beq v ver && (decide (es = szOf P e) && (Nat.beq m l.length && (decide (0 ≤ i) && decide (i < l.length))))) (.ptr o ver i.toNat 0)
      | _ => .bad
    | _ => .bad
  | _, _ => .bad
def xidx (P : Program) (h : Nat → Option XOb) (t : TypeId) (x ix : X) : XAR := match x with
  | .ptr .. => xindexArr P h t x ix
  | _ => xindexAddr P h t x ix

def xcut (P : Program) (e : TypeId) (x : X) (lo hi : Option Int) : XAR :=
  match x with
  | .sl τ l => match lo, hi with
    | none, some h => .val (decide (0 ≤ h) && decide (h ≤ l.length)) (.sl τ (l.take h.toNat))
    | some a, none => .val (decide (τ.length = szOf P e) && (decide (0 ≤ a) && decide (a ≤ l.length))) (.sl τ (l.drop a.toNat))
    | some a, some h => .val (decide (τ.length = szOf P e) && (decide (0 ≤ a) && (decide (a ≤ h) && decide (h ≤ l.length)))) (.sl τ ((l.take h.toNat).drop a.toNat))
    | none, none => .bad
  | .rd τ l => match lo, hi with
    | none, some h => .val (decide (0 ≤ h) && decide (h ≤ l.length)) (.rd τ (l.take h.toNat))
    | some a, none => .val (decide (τ.length = szOf P e) && (decide (0 ≤ a) && decide (a ≤ l.length))) (.rd τ (l.drop a.toNat))
    | some a, some h => .val (decide (τ.length = szOf P e) && (decide (0 ≤ a) && (decide (a ≤ h) && decide (h ≤ l.length)))) (.rd τ ((l.take h.toNat).drop a.toNat))
    | none, none => .bad
  | _ => .bad

def intO : Option X → Option (Option Int)
  | none => some none
  | some (.int _ n) => some (some n)
  | _ => none

def xslice (P : Program) (t : TypeId) (x : X) (lo hi : Option X) : XAR :=
  match elemT P t with
  | none => .bad
  | some e => if szOf P e = 0 then .bad else match intO lo, intO hi with
    | some a, some b => xcut P e x a b
    | _, _ => .bad

def rowsX (P : Program) (e : TypeId) (h : Nat → Option XOb) : X → Option (Σ τ : List Ty, List (RowT τ))
  | .nil => (rowTy P 8 e).map fun τ => ⟨τ, []⟩
  | .raw (.slice _ 0 _) => (rowTy P 8 e).map fun τ => ⟨τ, []⟩
  | .sl τ l => some ⟨τ, l⟩
  | .rd τ l => some ⟨τ, l⟩
  | .ref o ver => match h o with
    | some (.t v _ _ τ l) => if Nat.beq v ver then some ⟨τ, l⟩ else none
    | some (.u v _ _ imp rows) => if Nat.beq v ver && !imp then match rowTy P 8 e with
        | some τ => (rowsD τ rows).map fun l => ⟨τ, l⟩
        | none => none
      else none
    | none => none
  | _ => none

def xappend (P : Program) (h : Nat → Option XOb) (c : Nat) (t : TypeId) (x y : X) : XAR :=
  match elemT P t with
  | none => .bad
  | some e => match rowsX P e h y with
    | none => .bad
    | some ⟨σ, new⟩ => if szOf P e = 0 ∨ (zeroCs P e).isNone then .bad else match x with
      | .nil => .new (decide (σ.length = szOf P e) && (decide (1 ≤ bytesOf P e) && decide (new.length * bytesOf P e ≤ 140737488355328))) (.t c e (szOf P e) σ new) true
      | .ref o ver => match h o with
        | some (.t v ty es τ l) => if hτ : tysEq σ τ = true then
            .app (Nat.beq v ver && (decide (ty = e) && (decide (es = szOf P e) && (decide (σ.length = szOf P e) && (decide (1 ≤ bytesOf P e) && decide ((l.length + new.length) * bytesOf P e ≤ 140737488355328)))))) o (.t c ty es τ (l ++ castL new hτ))
          else .bad
        | some (.u v ty es imp rows) => if imp then .bad else match rowsD σ rows with
          | some l => .app (Nat.beq v ver && (decide (ty = e) && (decide (es = szOf P e) && (decide (σ.length = szOf P e) && (decide (1 ≤ bytesOf P e) && decide ((l.length + new.length) * bytesOf P e ≤ 140737488355328)))))) o (.t c ty es σ (l ++ new))
          | none => .bad
        | none => .bad
      | _ => .bad

def lenX (h : Nat → Option XOb) : X → Option Nat
  | .nil => some 0
  | .sl _ l => some l.length
  | .rd _ l => some l.length
  | .ref o ver => match h o with
    | some (.t v _ _ _ l) => if Nat.beq v ver then some l.length else none
    | some (.u v _ _ _ rows) => if Nat.beq v ver then some rows.length else none
    | none => none
  | _ => none

def xmax : List X → Option X
  | [.int k a, .int k' b] => if k = k' then some (.int k (if b > a then b else a)) else none
  | _ => none
def xmin : List X → Option X
  | [.int k a, .int k' b] => if k = k' then some (.int k (if b < a then b else a)) else none
  | _ => none

def X.capB (h : Nat → Option XOb) : X → Bool
  | .ptr o ver _ _ => curO h o ver
  | .int .. | .bool _ | .str _ | .sl .. | .nil | .cp _ _ => true
  | _ => false
def X.capC (h : Nat → Option XOb) : X → Bool
  | .cp _ _ => true
  | x => x.capB h
def isStrT (P : Program) (t : TypeId) : Bool := match P.underlying t with
  | some .string => true
  | _ => false

def xcall (P : Program) (e : Operand → X) (h : Nat → Option XOb) (c : Nat) (cl : Call) : XAR :=
  match cl.callee with
  | .value f => match e f with
    | .fn g caps => if callable P g && caps.all (X.capC h) then .call g (cl.args.toList.map e ++ caps) else .bad
    | _ => .bad
  | .builtin .len => match cl.args.toList, cl.argTypes.toList with
    | [x], [t] => match e x with
      | .str s => .val (isStrT P t) (.int .i64 s.size)
      | v => match lenX h v with
        | some n => .val (elemT P t).isSome (.int .i64 n)
        | none => .bad
    | _, _ => .bad
  | .builtin .append => match cl.args.toList, cl.argTypes.toList with
    | [x, y], [t, t'] => if t = t' then xappend P h c t (e x) (e y) else .bad
    | _, _ => .bad
  | .builtin .max => match xmax (cl.args.toList.map e) with | some v => .val true v | none => .bad
  | .builtin .min => match xmin (cl.args.toList.map e) with | some v => .val true v | none => .bad
  | _ => .bad

def xop (P : Program) (o : Oper) (e : Operand → X) (h : Nat → Option XOb) (c : Nat) : XAR :=
  match o.op with
  | .move x => .val true (e x)
  | .assign x => .val true (e x)
  | .pick c a b => match e c with | .bool t => (match t with | true => .val true (e a) | false => .val true (e b)) | _ => .bad
  | .alloc t => xalloc P c t
  | .box t x => .new ((e x).stor h && decide ((e x).cells.length = szOf P t)) (.u c t (szOf P t) (!(e x).pure) [(e x).cells]) false
  | .build t parts => xbuild P h t (parts.toList.map fun q => (q.1, e q.2))
  | .buildSlice t len parts => xbuildSlice P h c t len (parts.toList.map fun q => (q.1, e q.2))
  | .load t x => if 0 < szOf P t then xload P h t (e x) else .bad
  | .store t x y => if 0 < szOf P t then xstore P h t (e x) (e y) else .bad
  | .binOp op t x y _ => match binX P op t (e x) (e y) with | some (p, v) => .val p v | none => .bad
  | .unOp .not _ x => match e x with | .bool b => .val true (.bool (!b)) | _ => .bad
  | .unOp .neg _ x => match e x with | .int k n => .val true (.int k (k.wrap (0 - n))) | _ => .bad
  | .convert src dst x => match e x with
    | .int _ n => match P.underlying src, P.underlying dst with
      | some _, some (.int k) => .val true (.int k (k.wrap n))
      | _, _ => .bad
    | _ => .bad
  | .slice t x lo hi none => xslice P t (e x) (lo.map e) (hi.map e)
  | .fieldAddr t x f => xfieldAddr P h t f (e x)
  | .field t x f => xfield P t f (e x)
  | .indexAddr t x i => xidx P h t (e x) (e i)
  | .extract x i => match e x with | .tup vs => (match vs[i]? with | some v => .val true v | none => .bad) | _ => .bad
  | .makeFunc (.func f) first caps => if first.toList.isEmpty && (caps.toList.map e).all (X.capB h) then .val true (.fn f (caps.toList.map e)) else .bad
  | .nilCheck x => match e x with
    | .ptr o ver i j => .val (curO h o ver) (.ptr o ver i j)
    | _ => .bad
  | .call c' => xcall P e h c c'
  | .makeSlice t l m => xmake P c t (e l) (e m)
  | _ => .bad

end Go.AL
