/- From the model's code to the evaluator's. No condition. -/
import Derived.Test.YtnmakkgomplchaaGreatDoorEvC
import Derived.Lib.Bytealg
namespace Go.Ev
set_option linter.unusedVariables false
set_option linter.unusedSimpArgs false
set_option linter.unusedSectionVars false

def ofCell : Value → Option D
  | .bool b => some (.bool b)
  | .int k n => some (.int k n)
  | .string s => some (.str s.data.toList)
  | .pointer none => some .nilp
  | .slice none 0 0 => some .nils
  | .map none => some .nilm
  | .nilFunc => some .nilf
  | .nilIface => some .nili
  | _ => none

def ofCells : List Value → Option (List AV)
  | [] => some []
  | v :: vs => match ofCell v, ofCells vs with
    | some x, some xs => some (.d x :: xs)
    | _, _ => none

def ofValue : Value → Option AV
  | .agg cs => (ofCells cs.toList).map .agg
  | v => (ofCell v).map .d

def compArg : Operand → Option AArg
  | .tmp t => some (.tmp t)
  | .const v => (ofValue v).map .val
  | .func f => some (.val (.fn f []))
  | .global _ => none

def compArgs : List Operand → Option (List AArg)
  | [] => some []
  | x :: xs => match compArg x, compArgs xs with
    | some a, some as => some (a :: as)
    | _, _ => none

mutual
def tyOf (P : Program) : Nat → TypeId → Option Ty
  | 0, _ => none
  | n + 1, t => match P.underlying t with
    | some (.int k) => some (.int k)
    | some .bool => some .bool
    | some .string => some .str
    | some (.slice e) => match tyOf P n e with | some x => some (.sl x) | none => none
    | some (.struct fs) =>
      match fs.back? with
      | some f => if P.underlying f.type matches some (.slice _) then
          (match P.underlying f.type with
           | some (.slice e) => if e == t then (match tyFields P n (fs.toList.dropLast) with | some x => some (.rose x) | none => none) else tyFields P n fs.toList
           | _ => none)
        else tyFields P n fs.toList
      | none => some .unit
    | _ => none
def tyFields (P : Program) : Nat → List Field → Option Ty
  | 0, _ => none
  | _ + 1, [] => some .unit
  | n + 1, [f] => tyOf P n f.type
  | n + 1, f :: fs => match tyOf P n f.type, tyFields P n fs with
    | some a, some b => some (.pair a b)
    | _, _ => none
end

def sizeT (P : Program) (t : TypeId) : Option Nat := (P.info? t).map (·.size)

def aggT (P : Program) (t : TypeId) : Bool :=
  match P.underlying t with
  | some (.struct _) | some (.array _ _) => true
  | _ => false

/-- The plain type of an element, held against its size. -/
def elemTy (P : Program) (e : TypeId) : Option Ty :=
  match tyOf P 60 e with
  | some t => if sizeT P e = some t.size ∧ 0 < t.size ∧ (t = .int .u8 → e < P.types.size ∧ P.underlyingId e = e) then some t else none
  | none => none

def zero1 : D → Value → Bool
  | .int k n, .int k' n' => k == k' && n == n'
  | .bool b, .bool b' => b == b'
  | .str l, .string s => l.isEmpty && s.data.toList.isEmpty
  | .sl _ l, .slice none 0 0 => l.isEmpty
  | _, _ => false

def zeros : List D → List Value → Bool
  | [], [] => true
  | d :: ds, v :: vs => zero1 d v && zeros ds vs
  | _, _ => false

/-- The zero value of the type is the plain type's. -/
def zeroT (P : Program) (e : TypeId) (t : Ty) : Bool :=
  match P.info? e with
  | some i => match i.zero with
    | some z => zeros (encC t t.dflt) z.cells.toList
    | none => false
  | none => false

def zeroAVs (P : Program) (e : TypeId) : Option (List AV) :=
  match P.info? e with
  | some i => match i.zero with
    | some z => ofCells z.cells.toList
    | none => none
  | none => none

def bytesT (P : Program) (t : TypeId) : Option Nat := (P.info? t).map (·.bytes)

/-- A struct that is held cell by cell: the cells' kinds. -/
def eqKinds (P : Program) : Nat → List Field → Option (List Nat)
  | _, [] => some []
  | off, f :: fs =>
    if f.name ≠ "_" ∧ f.offset = off then
      match P.underlying f.type, eqKinds P (off + 1) fs with
      | some (.int _), some ks => some (0 :: ks)
      | some .bool, some ks => some (1 :: ks)
      | some .string, some ks => some (2 :: ks)
      | _, _ => none
    else none

def placesS (P : Program) (fs : Array Field) : List (Nat × Operand) → Option (List (Nat × Nat))
  | [] => some []
  | (i, _) :: r => match fs[i]? with
    | some f => match sizeT P f.type, placesS P fs r with
      | some n, some ps => some ((f.offset, n) :: ps)
      | _, _ => none
    | none => none

def isBin : BinOp → Bool
  | _ => true

def isNeg : BinOp → Option Bool
  | .eql => some false
  | .neq => some true
  | _ => none

def constNil : Operand → Option Nat
  | .const (.slice none 0 0) => some 0
  | .const (.pointer none) => some 1
  | .const .nilFunc => some 2
  | _ => none

def kindNil (P : Program) (t : TypeId) : Option Nat :=
  match P.underlying t with
  | some (.slice _) => some 0
  | some (.pointer _) => some 1
  | some (.func _ _ _) => some 2
  | _ => none

def isByte (P : Program) (e : TypeId) : Bool := match P.underlying e with
  | some (.int .u8) => true
  | _ => false

/-- internal/bytealg.IndexByteString. -/
def indexByteG : List D → M D
  | [.str s, .int .u8 c] => .ret (.int .i64 (Lib.indexByte s c.toNat.toUInt8))
  | _ => .fail

/-- internal/bytealg.CountString. -/
def countByteG : List D → M D
  | [.str s, .int .u8 c] => .ret (.int .i64 (Lib.countByte s c.toNat.toUInt8))
  | _ => .fail

/-- What the machine does itself. -/
def externG (P : Program) (f : FuncId) : Option (List D → M D) :=
  match P.funcs[f]? with
  | some fn => if fn.body.isNone && !(fn.name == "runtime.NumGoroutine") && (Extern.findNext fn).isNone then
      (if fn.name = "internal/bytealg.IndexByteString" then some indexByteG else if fn.name = "internal/bytealg.CountString" then some countByteG else none)
    else none
  | none => none

/-- A struct whose first field is a pointer at it. -/
def selfT (P : Program) (e : TypeId) : Bool := match P.underlying e with
  | some (.struct fs) => match fs[0]? with
    | some f => f.offset == 0 && (match P.underlying f.type with
      | some (.pointer u) => u == e
      | _ => false)
    | none => false
  | _ => false

def headNil : List AV → Bool
  | .d .nilp :: _ => true
  | _ => false

def isConstNili : Operand → Bool
  | .const .nilIface => true
  | _ => false

/-- A pointer at the one type of bytes, and an int. -/
def ustrT (P : Program) (t u : TypeId) : Bool := match P.underlying t with
  | some (.pointer e) => decide (elemTy P e = some (.int .u8)) && decide (P.cellsOf e = 1) && (match P.underlying u with
    | some (.int .i64) => true
    | _ => false)
  | _ => false

/-- Which types' numbers rows bear. -/
class TagOK (P : Program) [Ctx] : Prop where
  tag_of : ∀ (e : TypeId) (t : Ty), elemTy P e = some t → Ctx.tag t e
  byte : ∀ (e e' : TypeId), elemTy P e = some (.int .u8) → Ctx.tag (.int .u8) e' → e' = e

/-- slices.overlaps, at some type. -/
def ovlF (P : Program) (f : FuncId) : Bool := match P.funcs[f]? with
  | some fn => fn.body.isNone && decide (fn.origin = "slices.overlaps") && !(fn.name == "runtime.NumGoroutine") && (Extern.findNext fn).isNone && (Extern.allGenericRows.lookup fn.name).isNone && (Extern.allTypedRows.lookup fn.name).isNone && (Extern.allRows.lookup fn.name).isNone && (match fn.params.toList with
    | [t, u] => t == u && (match P.underlying t with
      | some (.slice e) => (match sizeT P e with | some _ => true | none => false)
      | _ => false)
    | _ => false)
  | none => false

/-- An operation, and its operands. -/
def compOp (P : Program) (o : Oper) : Option (AOp × List Operand) :=
  match o.op with
  | .move x => some (.mv, [x])
  | .assign x =>
    if constNil x = some 0 then
      match P.underlying o.type with
      | some (.slice e) => match elemTy P e with
        | some t => some (.nilArr t, [])
        | none => some (.mv, [x])
      | _ => some (.mv, [x])
    else some (.mv, [x])
  | .pick c a b => some (.pick, [c, a, b])
  | .alloc e => match zeroAVs P e with
    | some zs => if selfT P e && headNil zs then some (.allocT e zs, []) else some (.alloc zs, [])
    | none => none
  | .box e x => match sizeT P e with | some n => some (.box n, [x]) | none => none
  | .build t ps => match P.underlying t, zeroAVs P t with
    | some (.struct fs), some zs => match placesS P fs ps.toList with | some pl => if fs.all (fun f => (sizeT P f.type).isSome) then some (.build zs pl, ps.toList.map (·.2)) else none | none => none
    | _, _ => none
  | .buildSlice t n ps => match P.underlying t with
    | some (.slice e) => match elemTy P e with
      | some ty => if zeroT P e ty = true ∧ n * ty.size ≤ 16777216 then some (.lit ty n (ps.toList.map (·.1)), ps.toList.map (·.2)) else none
      | none => none
    | _ => none
  | .load t a => match sizeT P t with | some n => if (P.underlying t).isSome then some (.load (aggT P t) n, [a]) else none | none => none
  | .store t a x => match sizeT P t with | some n => some (.store n, [a, x]) | none => none
  | .nilCheck x => some (.chk, [x])
  | .binOp op t x y _ =>
    match P.underlying t with
    | some (.int _) | some .string => some (.bin op, [x, y])
    | some .bool => match isNeg op with | some ng => some (.eqb ng, [x, y]) | none => none
    | some (.struct fs) => match isNeg op, eqKinds P 0 fs.toList with
      | some ng, some ks => if P.stoodInHeld t || P.eqGuardType P.depth t then none else some (.eqs ng ks, [x, y])
      | _, _ => none
    | some (.interface _) => match isNeg op with
      | some ng => if isConstNili y then some (.isnili ng, [x]) else none
      | none => none
    | _ => match isNeg op, constNil y, kindNil P t with
      | some ng, some k, some k' => if k = k' then some (.isnil ng k, [x]) else none
      | _, _, _ => none
  | .unOp op _ x => some (.un op, [x])
  | .convert src dst x => match P.underlying src, P.underlying dst with
    | some (.int _), some (.int k) => some (.toInt k, [x])
    | some .string, some .string => some (.idstr, [x])
    | some .string, some (.slice e) => if isByte P e then some (.s2b, [x]) else none
    | some (.slice e), some .string => if isByte P e then some (.b2s, [x]) else none
    | _, _ => none
  | .makeFunc (.func f) first caps => if first.isEmpty then some (.clo f, caps.toList) else none
  | .makeSlice t l c => match P.underlying t with
    | some (.slice e) => match elemTy P e, bytesT P e with
      | some ty, some b => if zeroT P e ty then some (.mk ty b, [l, c]) else none
      | _, _ => none
    | _ => none
  | .slice t x lo hi mx => match P.underlying t with
    | some .string => some (.cut 0 lo.isSome hi.isSome mx.isSome, [x] ++ lo.toList ++ hi.toList ++ mx.toList)
    | some (.slice e) => match sizeT P e with | some n => if n = 0 then none else some (.cut n lo.isSome hi.isSome mx.isSome, [x] ++ lo.toList ++ hi.toList ++ mx.toList) | none => none
    | _ => none
  | .fieldAddr s x f => match P.underlying s with
    | some (.struct fs) => match fs[f]? with
      | some fd => match sizeT P fd.type with | some n => if n = 0 then none else some (.fld fd.offset, [x]) | none => none
      | none => none
    | _ => none
  | .field t x f => match P.underlying t with
    | some (.struct fs) => match fs[f]? with
      | some fd => match sizeT P fd.type with | some n => if (P.underlying fd.type).isSome then some (.get (aggT P fd.type) fd.offset n, [x]) else none | none => none
      | none => none
    | _ => none
  | .indexAddr t x i => match P.underlying t with
    | some (.slice e) => match sizeT P e with | some n => some (.elm n, [x, i]) | none => none
    | _ => none
  | .index t x i => match P.underlying t with
    | some .string => some (.chr, [x, i])
    | _ => none
  | .extract t i => some (.ext i, [t])
  | .call c => match c.callee with
    | .value (.func f) => match externG P f with
      | some g => some (.prim g, c.args.toList)
      | none => if ovlF P f then some (.ovl, c.args.toList) else some (.call f, c.args.toList)
    | .value (.tmp t) => some (.callv, .tmp t :: c.args.toList)
    | .value _ => none
    | .invoke _ _ => none
    | .builtin .len => match c.argTypes[0]? with
      | some t => match P.underlying t with | some (.slice _) => some (.len false, c.args.toList) | some .string => some (.len true, c.args.toList) | _ => none
      | none => none
    | .builtin .append => match c.argTypes.toList with
      | [t, u] => match P.underlying t, P.underlying u with
        | some (.slice e), some (.slice _) => match elemTy P e, bytesT P e with | some ty, some b => if zeroT P e ty && Nat.blt 0 b then some (.app ty b, c.args.toList) else none | _, _ => none
        | some (.slice e), some (.int _) => match elemTy P e, bytesT P e with | some ty, some b => if zeroT P e ty && Nat.blt 0 b then some (.appz ty b, c.args.toList) else none | _, _ => none
        | some (.slice e), some .string => match elemTy P e, bytesT P e with | some ty, some b => if zeroT P e ty && Nat.blt 0 b then some (.app ty b, c.args.toList) else none | _, _ => none
        | _, _ => none
      | _ => none
    | .builtin .copy => match c.argTypes.toList with
      | [t, u] => match P.underlying t with
        | some (.slice e) => match sizeT P e with | some n => some (.cpy n, c.args.toList) | none => none
        | _ => none
      | _ => none
    | .builtin .min => some (.mini, c.args.toList)
    | .builtin .max => some (.maxi, c.args.toList)
    | .builtin .clear => match c.argTypes.toList with
      | [t] => match P.underlying t with
        | some (.slice e) => match elemTy P e with | some ty => if zeroT P e ty then some (.clr ty, c.args.toList) else none | none => none
        | _ => none
      | _ => none
    | .builtin .cap => match c.argTypes[0]? with
      | some t => match P.underlying t with | some (.slice _) => some (.capv, c.args.toList) | _ => none
      | none => none
    | .builtin .unsafeSliceData => some (.sdata, c.args.toList)
    | .builtin .unsafeString => match c.argTypes.toList with
      | [t, u] => if ustrT P t u then some (.ustr, c.args.toList) else none
      | _ => none
    | .builtin _ => none
  | _ => none

/-- A guard's slot. -/
def compGuard (ops : Array Oper) : Option (Nat × Bool) → Option (Option (Nat × Bool))
  | none => some none
  | some (j, want) => match (ops[j]?).bind (·.dst) with
    | some d => some (some (d, want))
    | none => none

/-- What does not compile is bad: it may stand where nobody comes. -/
def compB (P : Program) (o : Oper) : AOp × List AArg :=
  match compOp P o with
  | some (op, xs) => match compArgs xs with
    | some as => (op, as)
    | none => (.bad, [])
  | none => (.bad, [])

def compOper (P : Program) (ops : Array Oper) (o : Oper) : Option AOper :=
  match compGuard ops o.guard with
  | some g => some ⟨o.dst, g, (compB P o).1, (compB P o).2⟩
  | none => none

def compOpers (P : Program) (ops : Array Oper) : List Oper → Option (List AOper)
  | [] => some []
  | o :: os => match compOper P ops o, compOpers P ops os with
    | some a, some as => some (a :: as)
    | _, _ => none

/-- The edges that bind in whatever order. -/
def edgesOf (o : Oper) : List Nat := o.after.toList.filterMap fun e => if Region.binds .any e then some e.on else none

def bitsOf (l : List Nat) : Nat := l.foldl (fun s i => s ||| 1 <<< i) 0

def without (live : Nat) (i : Nat) : Nat := if live.testBit i then live - (1 <<< i) else live

def liveOper (o : AOper) (live : Nat) : Nat := (match o.dst with | some d => without live d | none => live) ||| bitsOf o.looks

def liveArg : AArg → Nat
  | .tmp i => 1 <<< i
  | .val _ => 0

def readsC : AC → Nat
  | .skip | .exit _ | .ret | .bad => 0
  | .region ops _ => ops.foldl (fun s o => s ||| bitsOf o.looks) 0
  | .seq a b => readsC a ||| readsC b
  | .cnd c a b => liveArg c ||| readsC a ||| readsC b
  | .block _ a => readsC a
  | .loop _ a => readsC a

def exitLive (ex : List (Nat × Nat)) (id : Nat) : Nat := match ex.find? (·.1 == id) with | some p => p.2 | none => 0

/-- Each edge leads back. -/
def edgesOK : Nat → List (List Nat) → Bool
  | _, [] => true
  | i, es :: r => es.all (fun e => Nat.blt e i) && edgesOK (i + 1) r

/-- Code, and the slots that live ahead of it. -/
def compC (P : Program) (ret : Nat) : Code → (live : Nat) → (ex : List (Nat × Nat)) → Option (AC × Nat)
  | .skip, live, _ => some (.skip, live)
  | .region _ ops draw, live, _ => match compOpers P ops ops.toList with
    | some as => if draw && !edgesOK 0 (ops.toList.map edgesOf) then none else some (.region as (cond draw (some (ops.toList.map edgesOf)) none), as.foldr liveOper live)
    | none => none
  | .seq a b, live, ex => match compC P ret b live ex with
    | some (b', lb) => match compC P ret a lb ex with
      | some (a', la) => some (.seq a' b', la)
      | none => none
    | none => none
  | .cond c a b, live, ex => match compArg c, compC P ret a live ex, compC P ret b live ex with
    | some c', some (a', la), some (b', lb) => some (.cnd c' a' b', liveArg c' ||| la ||| lb)
    | _, _, _ => none
  | .block id a, live, ex => match compC P ret a live ((id, live) :: ex) with
    | some (a', la) => some (.block id a', la)
    | none => none
  | .loop a, live, ex => match compC P ret a 0 ex with
    | some (_, h0) => match compC P ret a h0 ex with
      | some (_, h1) => match compC P ret a h1 ex with
        | some (a', h2) => some (.loop h2 a', h2)
        | none => none
      | none => none
    | none => none
  | .exit id, _, ex => some (.exit id, exitLive ex id)
  | .ret, _, _ => some (.ret, ret)
  | .scope a, live, ex => compC P ret a live ex
  | .label _, live, _ => some (.skip, live)
  | _, _, _ => some (.bad, 0)

def resTmps (P : Program) : List ResultVar → Option (List (Nat × Option (Bool × Nat)))
  | [] => some []
  | .tmp t :: r => match resTmps P r with | some l => some ((t, none) :: l) | none => none
  | .cell a t :: r => match sizeT P t, resTmps P r with | some n, some l => if (P.underlying t).isSome then some ((a, some (aggT P t, n)) :: l) else none | _, _ => none

def compFn (P : Program) (fn : Func) (plain byref : Bool) : Option AFn :=
  match fn.body with
  | some c => if fn.name == "runtime.NumGoroutine" then none else
    match resTmps P fn.results.toList with
    | some rs => match compC P (bitsOf (rs.map (·.1))) c (bitsOf (rs.map (·.1))) [] with
      | some (a, _) => some ⟨fn.ntmps, rs, a, plain, byref⟩
      | none => none
    | none => none
  | none => none

/-- The functions of a program: 'kinds' says of each what it hands back and takes. -/
def fnsOf (P : Program) (kinds : FuncId → Bool × Bool) : FuncId → Option AFn := fun f =>
  match P.funcs[f]? with
  | some fn => compFn P fn (kinds f).1 (kinds f).2
  | none => none

end Go.Ev
