/- An evaluator of Go code over abstract values. No condition. -/
import Derived.Test.YtnmakkgomplchaaGreatDoorEvB
namespace Go.Ev
set_option linter.unusedVariables false
set_option linter.unusedSimpArgs false
set_option linter.unusedSectionVars false

/-- What is reckoned: a result, none, or two ways by a test. -/
inductive M (α : Type) where
  | ret (a : α)
  | fail
  | br (b : Bool) (k : Bool → M α)

def M.bind {α β : Type} : M α → (α → M β) → M β
  | .ret a, f => f a
  | .fail, _ => .fail
  | .br b k, f => .br b fun p => (k p).bind f

def M.run {α : Type} : M α → Option α
  | .ret a => some a
  | .fail => none
  | .br b k => (k b).run

/-- Go on only if. -/
def M.chk {α : Type} (b : Bool) (m : M α) : M α := .br b fun p => cond p m .fail
/-- Go on only if, where it is known. -/
def M.ifb {α : Type} (b : Bool) (m : M α) : M α := cond b m .fail

theorem M.run_bind {α β : Type} (m : M α) (f : α → M β) : (m.bind f).run = m.run.bind fun a => (f a).run := by
  induction m with
  | ret a => rfl
  | fail => rfl
  | br b k ih => simp only [M.bind, M.run]; exact ih b

theorem M.run_chk {α : Type} (b : Bool) (m : M α) (a : α) : (M.chk b m).run = some a ↔ b = true ∧ m.run = some a := by
  cases b <;> simp [M.chk, M.run]

theorem M.run_ifb {α : Type} (b : Bool) (m : M α) (a : α) : (M.ifb b m).run = some a ↔ b = true ∧ m.run = some a := by
  cases b <;> simp [M.ifb, M.run]

/-- Along a way: what it comes to, what is left of the way, and which tests it took for true. -/
def M.path {α : Type} : List Bool → M α → Option (α × List Bool)
  | _, .ret a => some (a, [])
  | _, .fail => none
  | [], .br _ _ => none
  | p :: ps, .br b k => match M.path ps (k p) with
    | none => none
    | some (a, cs) => some (a, (b == p) :: cs)

theorem M.run_of_path {α : Type} : ∀ (m : M α) (ps : List Bool) (a : α) (cs : List Bool), m.path ps = some (a, cs) → cs.all id = true → m.run = some a
  | .ret a, ps, b, cs, h, _ => by cases ps <;> · simp [M.path] at h; simp [M.run, h.1]
  | .fail, ps, b, cs, h, _ => by cases ps <;> simp [M.path] at h
  | .br b k, [], a, cs, h, _ => by simp [M.path] at h
  | .br b k, p :: ps, a, cs, h, hc => by
    simp only [M.path] at h
    cases hp : M.path ps (k p) with
    | none => rw [hp] at h; cases h
    | some x =>
      rw [hp] at h
      obtain ⟨x1, x2⟩ := x
      simp at h
      obtain ⟨rfl, rfl⟩ := h
      simp at hc
      have := M.run_of_path (k p) ps _ _ hp (by simpa using hc.2)
      simp only [M.run]
      rw [hc.1]
      exact this

/-- A row of slots and what an operand says of it. -/
inductive AArg where
  | tmp (i : Nat)
  | val (v : AV)

inductive AOp where
  | mv | pick
  | box (n : Nat)
  | alloc (zs : List AV)
  | nilArr (t : Ty)
  | build (zs : List AV) (ps : List (Nat × Nat))
  | lit (t : Ty) (n : Nat) (ix : List Nat)
  | load (agg : Bool) (n : Nat)
  | store (n : Nat)
  | chk
  | bin (op : BinOp)
  | un (op : UnOp)
  | toInt (k : IntKind)
  | idstr
  | fld (off : Nat)
  | get (agg : Bool) (off n : Nat)
  | elm (sz : Nat)
  | chr
  | cut (sz : Nat) (lo hi mx : Bool)
  | ext (i : Nat)
  | len (str : Bool)
  | app (t : Ty) (bytes : Nat)
  | cpy (n : Nat)
  | mini | maxi
  | mk (t : Ty) (bytes : Nat)
  | clo (f : FuncId)
  | call (f : FuncId)
  | callv
  | clr (t : Ty)
  | eqs (neg : Bool) (ks : List Nat)
  | eqb (neg : Bool)
  | isnil (neg : Bool) (k : Nat)
  | prim (g : List D → M D)
  | s2b | b2s
  /-- A variable of a type that holds a pointer at itself, first. -/
  | allocT (T : TypeId) (zs : List AV)
  /-- SliceData, String of the package of raw memory. -/
  | sdata | ustr
  | isnili (neg : Bool)
  | capv
  /-- append of so many zeros. -/
  | appz (t : Ty) (bytes : Nat)
  /-- slices.overlaps. -/
  | ovl
  /-- What the evaluator does not take. -/
  | bad

structure AOper where
  dst : Option Nat
  guard : Option (Nat × Bool)
  op : AOp
  args : List AArg

inductive AC where
  | skip
  | region (ops : List AOper) (after : Option (List (List Nat)))
  | seq (a b : AC)
  | cnd (c : AArg) (a b : AC)
  | block (id : Nat) (b : AC)
  | loop (keep : Nat) (b : AC)
  | exit (id : Nat)
  | ret
  | bad

inductive AEx where
  | normal | exit (id : Nat) | ret

structure AFn where
  ntmps : Nat
  /-- Slots; with a load: aggregate or not, how many cells. -/
  results : List (Nat × Option (Bool × Nat))
  body : AC
  /-- What it hands back are plain data. -/
  plain : Bool
  /-- It may write its slices. -/
  byref : Bool

abbrev Env := List AV
abbrev Boxes := List Box

def look (B : Boxes) (b : Nat) : Box := B.getD b .dead

def rdA (env : Env) : AArg → AV
  | .tmp i => env.getD i .top
  | .val v => v

structure Res where
  val : AV
  reads : List Nat
  writes : List (Nat × Box)

/-- One cell, surely. -/
def AV.isCell : AV → Bool
  | .d _ | .sr .. | .ptr .. | .eptr .. | .cptr .. | .fn .. | .snil .. | .ifc _ => true
  | .top | .agg _ | .tup _ => false

def AV.cells : AV → List AV
  | .agg cs => cs
  | v => [v]

/-- The cells at a pointer. -/
def cellsAt (B : Boxes) (p : AV) (n : Nat) : M (List AV × List Nat) :=
  match p with
  | .ptr b off => match look B b with
    | .cells l => .ifb (Nat.ble (off + n) l.length) (.ret ((l.drop off).take n, [b]))
    | _ => .fail
  | .eptr b i sz off => match look B b with
    | .arr t l _ => .ifb (sz == t.size && Nat.ble (off + n) sz) (.chk (decide (i < l.length)) (.ret ((((encC t (l.getD i t.dflt)).map AV.d).drop off).take n, [b])))
    | _ => .fail
  | .cptr cs off => .ifb (Nat.ble (off + n) cs.length) (.ret (((cs.map AV.d).drop off).take n, []))
  | _ => .fail

/-- Plain data, and which rows are closed by it. -/
def toD (B : Boxes) : AV → M (D × List (Nat × Box))
  | .d x => .ret (x, [])
  | .sr b off len sz _ => match look B b with
    | .arr t l _ => .ifb (sz == t.size) (.chk (decide (off + len ≤ l.length)) (.ret (.sl t ((l.drop off).take len), [(b, .arr t l false)])))
    | _ => .fail
  | _ => .fail

def toDs (B : Boxes) : List AV → M (List D × List (Nat × Box))
  | [] => .ret ([], [])
  | a :: as => (toD B a).bind fun (x, ws) => (toDs B as).bind fun (xs, vs) => .ret (x :: xs, ws ++ vs)

def decAll (t : Ty) (cs : List D) : M t.den :=
  match decP t cs with
  | some (x, []) => .ret x
  | _ => .fail

def splice {α : Type} (l : List α) (off : Nat) (xs : List α) : List α := l.take off ++ xs ++ l.drop (off + xs.length)

def aInt (op : BinOp) (k : IntKind) (a b : Int) : M D :=
  match op with
  | .add => .ret (.int k (k.wrap (a + b)))
  | .sub => .ret (.int k (k.wrap (a - b)))
  | .mul => .ret (.int k (k.wrap (a * b)))
  | .quo => .chk (!decide (b = 0)) (.ret (.int k (k.wrap (a.tdiv b))))
  | .rem => .chk (!decide (b = 0)) (.ret (.int k (a.tmod b)))
  | .eql => .ret (.bool (a == b))
  | .neq => .ret (.bool (a != b))
  | .lss => .ret (.bool (decide (a < b)))
  | .leq => .ret (.bool (decide (a ≤ b)))
  | .gtr => .ret (.bool (decide (a > b)))
  | .geq => .ret (.bool (decide (a ≥ b)))
  | .and => .ret (.int k (k.wrap (BitVec.ofInt k.bits a &&& BitVec.ofInt k.bits b).toNat))
  | .or => .ret (.int k (k.wrap (BitVec.ofInt k.bits a ||| BitVec.ofInt k.bits b).toNat))
  | .xor => .ret (.int k (k.wrap (BitVec.ofInt k.bits a ^^^ BitVec.ofInt k.bits b).toNat))
  | .andNot => .ret (.int k (k.wrap (BitVec.ofInt k.bits a &&& ~~~(BitVec.ofInt k.bits b)).toNat))
  | _ => .fail

def aShift (op : BinOp) (k : IntKind) (a b : Int) : M D :=
  match op with
  | .shl => .chk (decide (0 ≤ b)) (.ret (.int k (k.wrap (a * 2 ^ (min b.toNat k.bits)))))
  | .shr => .chk (decide (0 ≤ b)) (.ret (.int k (a.fdiv (2 ^ (min b.toNat k.bits)))))
  | _ => .fail

def aStr (op : BinOp) (a b : List UInt8) : M D :=
  match op with
  | .add => .chk (decide (a.length + b.length ≤ 4611686018427387904)) (.ret (.str (a ++ b)))
  | .eql => .ret (.bool (a == b))
  | .neq => .ret (.bool (!(a == b)))
  | .lss => .ret (.bool (Op.bytesLess a b))
  | .leq => .ret (.bool (Op.bytesLess a b || a == b))
  | .gtr => .ret (.bool (!(Op.bytesLess a b || a == b)))
  | .geq => .ret (.bool (!(Op.bytesLess a b)))
  | _ => .fail

/-- Is it nil? k: 0 a slice, 1 a pointer, 2 a function. -/
def isNil (k : Nat) : AV → M Bool
  | .d .nils => .ifb (k == 0) (.ret true)
  | .d .nilp => .ifb (k == 1) (.ret true)
  | .d .nilf => .ifb (k == 2) (.ret true)
  | .d (.sl _ l) => .ifb (k == 0) (.chk (!l.isEmpty) (.ret false))
  | .ptr .. | .eptr .. | .cptr .. => .ifb (k == 1) (.ret false)
  | .snil .. => .ifb (k == 1) (.ret true)
  | .fn .. => .ifb (k == 2) (.ret false)
  | .sr _ _ len _ _ => .ifb (k == 0) (.chk (!decide (len = 0)) (.ret false))
  | _ => .fail

def aBin (op : BinOp) (x y : AV) : M AV :=
  match x, y with
  | .d (.int k a), .d (.int k' b) =>
    match op with
    | .shl | .shr => (aShift op k a b).bind fun r => .ret (.d r)
    | _ => .ifb (decide (k = k')) ((aInt op k a b).bind fun r => .ret (.d r))
  | .d (.str a), .d (.str b) => (aStr op a b).bind fun r => .ret (.d r)
  | _, _ => .fail

def aUn (op : UnOp) (x : AV) : M AV :=
  match op, x with
  | .neg, .d (.int k n) => .ret (.d (.int k (k.wrap (0 - n))))
  | .xor, .d (.int k n) => .ret (.d (.int k (k.wrap (BitVec.ofInt k.bits (if k.signed then -1 else k.max) ^^^ BitVec.ofInt k.bits n).toNat)))
  | .not, .d (.bool b) => .ret (.d (.bool (!b)))
  | _, _ => .fail

def asI : AV → M Int
  | .d (.int _ n) => .ret n
  | _ => .fail

/-- What a slice holds, to be copied. -/
def content (B : Boxes) (t : Ty) : AV → M (List t.den × List Nat)
  | .d .nils => .ret ([], [])
  | .d (.sl t' l) => if h : t' = t then .ret (h ▸ l, []) else .fail
  | .d (.str s) => if h : t = .int .u8 then .ret (h ▸ (s.map fun c => ((c.toNat : Nat) : Int) : List Int), []) else .fail
  | .sr b off len sz _ => match look B b with
    | .arr t' l _ => if h : t' = t then .ifb (sz == t.size) (.chk (decide (off + len ≤ l.length)) (.ret (h ▸ ((l.drop off).take len), [b]))) else .fail
    | _ => .fail
  | _ => .fail

/-- What a slice holds, as far as it is known, and how long it is. -/
def headOf (B : Boxes) (t : Ty) (a : AV) : M (Nat × List t.den × List Nat) :=
  match a with
  | .sr b off len sz cap => match look B b with
    | .arr _ l _ => (content B t (.sr b off (min len (l.length - off)) sz cap)).bind fun (ys, rs) => .ret (len, ys, rs)
    | _ => .fail
  | a => (content B t a).bind fun (ys, rs) => .ret (ys.length, ys, rs)

def bound (x : Option Int) (dflt : Nat) (top : Nat) : M Nat :=
  match x with
  | none => .ret dflt
  | some i => .chk (decide (0 ≤ i) && decide (i ≤ (top : Int))) (.ret i.toNat)

def optI (b : Bool) (xs : List AV) : M (Option Int × List AV) :=
  match b, xs with
  | false, xs => .ret (none, xs)
  | true, .d (.int _ n) :: xs => .ret (some n, xs)
  | true, _ => .fail

/-- x[lo:hi:mx]: 'mx' only where it is hi. -/
def aCut (sz : Nat) (x : AV) (lo hi mx : Option Int) : M AV :=
  match x with
  | .d (.str s) => match mx with
    | some _ => .fail
    | none => .ifb (sz == 0) ((bound hi s.length s.length).bind fun h => (bound lo 0 h).bind fun l => .ret (.d (.str ((s.take h).drop l))))
  | .d .nils => match mx with
    | some _ => .fail
    | none => .ifb (!(sz == 0)) ((bound hi 0 0).bind fun h => (bound lo 0 h).bind fun l => .ret (.d .nils))
  | .d (.sl t xs) => match mx with
    | some _ => .fail
    | none => .ifb (t.size == sz && !(sz == 0)) ((bound hi xs.length xs.length).bind fun h => (bound lo 0 h).bind fun l => .ret (.d (.sl t ((xs.take h).drop l))))
  | .sr b off len sz' cap => match mx with
      | some _ => .fail
      | none => .ifb (sz' == sz && !(sz == 0)) ((bound hi len (cap.getD len)).bind fun h => (bound lo 0 h).bind fun l =>
        .br (decide (l < len) || decide (l = 0)) fun p => cond p (.ret (.sr b (off + l) (h - l) sz (cap.map (· - l)))) (.ret .top))
  | _ => .fail

def min2 : AV → AV → M AV
  | .d (.int k x), .d (.int _ y) => .ret (.d (.int k (if y < x then y else x)))
  | _, _ => .fail

def max2 : AV → AV → M AV
  | .d (.int k x), .d (.int _ y) => .ret (.d (.int k (if x < y then y else x)))
  | _, _ => .fail

def foldM (f : AV → AV → M AV) : AV → List AV → M AV
  | a, [] => .ret a
  | a, b :: r => (f a b).bind fun x => foldM f x r

/-- Are two cells of a kind alike? 0: ints, 1: bools, 2: strings. -/
def eqD : Nat → AV → AV → Option Bool
  | 0, .d (.int k a), .d (.int k' b) => if k = k' then some (a == b) else none
  | 1, .d (.bool a), .d (.bool b) => some (a == b)
  | 2, .d (.str a), .d (.str b) => some (a == b)
  | _, _, _ => none

def eqCells : List Nat → List AV → List AV → M Bool
  | [], [], [] => .ret true
  | k :: ks, a :: as, b :: bs => match eqD k a b with
    | some e => (eqCells ks as bs).bind fun r => .ret (e && r)
    | none => .fail
  | _, _, _ => .fail

/-- Which boxes a value names. -/
def AV.refs : AV → List Nat
  | .sr b _ _ _ _ => [b]
  | .ptr b _ => [b]
  | .eptr b _ _ _ => [b]
  | .snil b _ => [b]
  | .agg cs => refsL cs
  | .tup cs => refsL cs
  | .fn _ cs => refsL cs
  | .top | .d _ | .cptr _ _ | .ifc _ => []
where
  refsL : List AV → List Nat
  | [] => []
  | a :: as => a.refs ++ refsL as

def Box.refs : Box → List Nat
  | .cells l => AV.refs.refsL l
  | _ => []

mutual
/-- Boxes by other names. -/
def AV.ren (f : Nat → Option Nat) : AV → Option AV
  | .top => some .top
  | .d x => some (.d x)
  | .sr b off len sz cap => match f b with | some b' => some (.sr b' off len sz cap) | none => none
  | .ptr b off => match f b with | some b' => some (.ptr b' off) | none => none
  | .eptr b i sz off => match f b with | some b' => some (.eptr b' i sz off) | none => none
  | .cptr cs off => some (.cptr cs off)
  | .ifc T => some (.ifc T)
  | .snil b T => match f b with | some b' => some (.snil b' T) | none => none
  | .agg cs => match AV.renL f cs with | some cs' => some (.agg cs') | none => none
  | .tup cs => match AV.renL f cs with | some cs' => some (.tup cs') | none => none
  | .fn g cs => match AV.renL f cs with | some cs' => some (.fn g cs') | none => none
def AV.renL (f : Nat → Option Nat) : List AV → Option (List AV)
  | [] => some []
  | a :: as => match AV.ren f a with
    | none => none
    | some a' => match AV.renL f as with
      | none => none
      | some as' => some (a' :: as')
end

def Box.ren (f : Nat → Option Nat) : Box → Option Box
  | .dead => some .dead
  | .cells l => match AV.renL f l with | some l' => some (.cells l') | none => none
  | .arr t l m => some (.arr t l m)

def renBoxes (f : Nat → Option Nat) : List Box → Option (List Box)
  | [] => some []
  | x :: xs => match x.ren f with
    | none => none
    | some x' => match renBoxes f xs with
      | none => none
      | some xs' => some (x' :: xs')

def reachGo (B : Boxes) : Nat → List Nat → List Nat → List Nat
  | 0, done, _ => done
  | _ + 1, done, [] => done
  | n + 1, done, b :: todo => if done.contains b then reachGo B n done todo else reachGo B n (done ++ [b]) (todo ++ (look B b).refs)

def idxIn (l : List Nat) (b : Nat) : Option Nat := l.idxOf? b

def nodupB : List Nat → Bool
  | [] => true
  | x :: xs => !xs.contains x && nodupB xs

/-- The boxes of a row, by their places in it. -/
def pickBoxes (B : Boxes) (rs : List Nat) : M (List Box) :=
  .ifb (nodupB rs && rs.all fun b => Nat.blt b B.length)
    (match renBoxes (idxIn rs) (rs.map (look B)) with
     | some B' => .ret B'
     | none => .fail)

def optM {α : Type} : Option α → M α
  | some a => .ret a
  | none => .fail

def AV.isStr : AV → Bool
  | .d (.str _) => true
  | _ => false

def asDs : List AV → Option (List D)
  | [] => some []
  | .d x :: as => match asDs as with
    | some ds => some (x :: ds)
    | none => none
  | _ => none

/-- Nothing in it lies in a row that somebody might write. -/
def D.flat : D → Bool
  | .sl _ _ => false
  | _ => true

def AV.flat : AV → Bool
  | .d x => x.flat
  | .sr .. | .ptr .. | .eptr .. | .snil .. | .ifc _ => true
  | .cptr .. | .top => false
  | .agg cs => flatL cs
  | .tup cs => flatL cs
  | .fn _ cs => flatL cs
where
  flatL : List AV → Bool
  | [] => true
  | a :: as => a.flat && flatL as

def Box.flat : Box → Bool
  | .dead => true
  | .cells l => AV.flat.flatL l
  | .arr t _ live => t.flat && live

mutual
/-- Slices as plain data, and which boxes these lie in. -/
def snap (B : Boxes) : AV → M (AV × List (Nat × Box))
  | .sr b off len sz cap => (toD B (.sr b off len sz cap)).bind fun (x, ws) => .ret (.d x, ws)
  | .agg cs => (snapL B cs).bind fun (cs', ws) => .ret (.agg cs', ws)
  | .tup cs => (snapL B cs).bind fun (cs', ws) => .ret (.tup cs', ws)
  | .fn g cs => (snapL B cs).bind fun (cs', ws) => .ret (.fn g cs', ws)
  | a => .ret (a, [])
def snapL (B : Boxes) : List AV → M (List AV × List (Nat × Box))
  | [] => .ret ([], [])
  | a :: as => (snap B a).bind fun (a', ws) => (snapL B as).bind fun (as', vs) => .ret (a' :: as', ws ++ vs)
end

def setE (B : Boxes) (i : Nat) (x : Box) : Boxes :=
  if i < B.length then B.set i x else B ++ List.replicate (i - B.length) .dead ++ [x]

def upd (B : Boxes) (ws : List (Nat × Box)) : Boxes := ws.foldl (fun B (i, x) => setE B i x) B

/-- How many boxes a call may make. -/
def room : Nat := 4

abbrev Caller := FuncId → List AV → Boxes → M (AV × Boxes)

def setDs : List D → Nat → List D → List D := fun l off xs => splice l off xs

/-- The row of a literal: elements at their places, else zero. -/
def litRow (t : Ty) : List Nat → List (List D) → List t.den → M (List t.den)
  | [], [], l => .ret l
  | i :: is, c :: cs, l => (decAll t c).bind fun x => litRow t is cs (l.set i x)
  | _, _, _ => .fail

def cellsD (B : Boxes) : List AV → M (List (List D) × List (Nat × Box))
  | [] => .ret ([], [])
  | a :: as => (toDs B a.cells).bind fun (x, ws) => (cellsD B as).bind fun (xs, vs) => .ret (x :: xs, ws ++ vs)

def buildGo : List AV → List (Nat × Nat) → List AV → M (List AV)
  | zs, [], [] => .ret zs
  | zs, (off, n) :: ps, a :: as => .ifb (a.cells.length == n && Nat.ble (off + n) zs.length && a.cells.all AV.isCell) (buildGo (splice zs off a.cells) ps as)
  | _, _, _ => .fail

def Box.isDead : Box → Bool
  | .dead => true
  | _ => false

def evCallOp (byref : FuncId → Bool) (call : Caller) (f : FuncId) (args : List AV) (B : Boxes) (al : Nat) : M Res :=
  (if byref f then M.ret (args, []) else snapL B args).bind fun (as, ws) =>
  let rs := reachGo B 1000 [] (AV.refs.refsL as)
  (optM (AV.renL (idxIn rs) as)).bind fun as' =>
  (pickBoxes B rs).bind fun sub =>
  .ifb (rs.all fun b => !(ws.map (·.1)).contains b)
  ((call f as' sub).bind fun (r, B1) =>
    let ks := rs ++ (List.range (B1.length - rs.length)).map fun j => al + j
    .ifb (Nat.ble rs.length B1.length && Nat.ble B1.length (rs.length + room) && (rs.all fun b => Nat.blt b al) && (rs.all fun b => !(look B b).isDead) && ((B1.drop rs.length).all fun x => !x.isDead))
    ((optM (AV.ren (fun i => ks[i]?) r)).bind fun r' =>
     (optM (renBoxes (fun i => ks[i]?) B1)).bind fun B1' =>
     let close := if r.flat && B1.all Box.flat then [] else ws
     .ret ⟨r', rs ++ ws.map (·.1), close ++ ks.zip B1'⟩))

def evOp (byref : FuncId → Bool) (call : Caller) (op : AOp) (args : List AV) (B : Boxes) (al : Nat) : M Res :=
  match op, args with
  | .mv, [x] => .ret ⟨x, [], []⟩
  | .pick, [.d (.bool c), a, b] => .br c fun p => .ret ⟨cond p a b, [], []⟩
  | .box n, [x] => .ifb (x.cells.length == n && x.cells.all AV.isCell) (.ret ⟨.ptr al 0, [], [(al, .cells x.cells)]⟩)
  | .alloc zs, [] => .ret ⟨.ptr al 0, [], [(al, .cells zs)]⟩
  | .nilArr t, [] => .ifb (Nat.blt 0 t.size) (.ret ⟨.sr al 0 0 t.size none, [], [(al, .arr t [] true)]⟩)
  | .build zs ps, as => (buildGo zs ps as).bind fun cs => .ret ⟨.agg cs, [], []⟩
  | .lit t n ix, as => .ifb (Nat.blt 0 t.size && ix.all fun i => Nat.blt i n) ((cellsD B as).bind fun (cs, ws) => (litRow t ix cs (List.replicate n t.dflt)).bind fun l =>
      .ret ⟨.sr al 0 n t.size (some n), ws.map (·.1), ws ++ [(al, .arr t l true)]⟩)
  | .load agg n, [p] => (cellsAt B p n).bind fun (cs, rs) => match agg, cs with
    | true, cs => .ret ⟨.agg cs, rs, []⟩
    | false, [c] => .ret ⟨c, rs, []⟩
    | false, _ => .fail
  | .store n, [p, v] => .ifb (v.cells.length == n && v.cells.all AV.isCell) (match p with
    | .ptr b off => match look B b with
      | .cells l => .ifb (Nat.ble (off + n) l.length) (.ret ⟨.top, [b], [(b, .cells (splice l off v.cells))]⟩)
      | _ => .fail
    | .eptr b i sz off => match look B b with
      | .arr t l true => .ifb (sz == t.size && Nat.ble (off + n) sz) (.chk (decide (i < l.length)) ((toDs B v.cells).bind fun (cs, ws) =>
          .ifb (!(ws.map (·.1)).contains b) ((decAll t (splice (encC t (l.getD i t.dflt)) off cs)).bind fun x => .ret ⟨.top, b :: ws.map (·.1), ws ++ [(b, .arr t (l.set i x) true)]⟩)))
      | _ => .fail
    | _ => .fail)
  | .chk, [p] => match p with
    | .ptr .. | .eptr .. | .cptr .. | .fn .. => .ret ⟨p, [], []⟩
    | _ => .fail
  | .bin op, [x, y] => (aBin op x y).bind fun r => .ret ⟨r, [], []⟩
  | .un op, [x] => (aUn op x).bind fun r => .ret ⟨r, [], []⟩
  | .toInt k, [.d (.int _ n)] => .ret ⟨.d (.int k (k.wrap n)), [], []⟩
  | .idstr, [x] => match x with
    | .d (.str s) => .ret ⟨.d (.str s), [], []⟩
    | _ => .fail
  | .fld off, [p] => match p with
    | .ptr b o => .ret ⟨.ptr b (o + off), [], []⟩
    | .eptr b i sz o => .ret ⟨.eptr b i sz (o + off), [], []⟩
    | .cptr cs o => .ret ⟨.cptr cs (o + off), [], []⟩
    | _ => .fail
  | .get agg off n, [.agg cs] => .ifb (Nat.ble (off + n) cs.length) (match agg, (cs.drop off).take n with
    | true, xs => .ret ⟨.agg xs, [], []⟩
    | false, [x] => .ret ⟨x, [], []⟩
    | false, _ => .fail)
  | .elm sz, [s, .d (.int _ i)] => match s with
    | .d (.sl t l) => .ifb (t.size == sz) (.chk (decide (0 ≤ i)) (.chk (decide (i < (l.length : Int))) (.ret ⟨.cptr (encC t (l.getD i.toNat t.dflt)) 0, [], []⟩)))
    | .sr b off len sz' _ => .ifb (sz' == sz) (.chk (decide (0 ≤ i)) (.chk (decide (i < (len : Int))) (.ret ⟨.eptr b (off + i.toNat) sz 0, [], []⟩)))
    | _ => .fail
  | .chr, [.d (.str s), .d (.int _ i)] => .chk (decide (0 ≤ i)) (.chk (decide (i < (s.length : Int))) (.ret ⟨.d (.int .u8 ((s.getD i.toNat 0).toNat : Nat)), [], []⟩))
  | .cut sz lo hi mx, x :: xs => (optI lo xs).bind fun (l, xs) => (optI hi xs).bind fun (h, xs) => (optI mx xs).bind fun (m, xs) => match xs with
    | [] => (aCut sz x l h m).bind fun v => .ret ⟨v, [], []⟩
    | _ => .fail
  | .ext i, [.tup vs] => match vs[i]? with
    | some v => .ret ⟨v, [], []⟩
    | none => .fail
  | .len true, [x] => match x with
    | .d (.str s) => .ret ⟨.d (.int .i64 (s.length : Nat)), [], []⟩
    | _ => .fail
  | .len false, [x] => match x with
    | .d (.sl _ l) => .ret ⟨.d (.int .i64 (l.length : Nat)), [], []⟩
    | .d .nils => .ret ⟨.d (.int .i64 0), [], []⟩
    | .sr _ _ len _ _ => .ret ⟨.d (.int .i64 (len : Nat)), [], []⟩
    | _ => .fail
  | .app t bytes, [x, y] => .ifb (Nat.blt 0 t.size) ((content B t y).bind fun (ys, ry) => match x with
    | .d .nils => .br ys.isEmpty fun p => cond p (.ret ⟨.d .nils, ry, []⟩)
        (.chk (decide (ys.length * bytes ≤ 70368744177664)) (.ret ⟨.sr al 0 ys.length t.size none, ry, [(al, .arr t ys true)]⟩))
    | .sr b off len sz cap => match look B b with
      | .arr t' l live => if h : t' = t then .ifb (sz == t.size) (.chk (decide ((len + ys.length) * bytes ≤ 70368744177664)) (match cap with
        | none => .ifb (live && off == 0) (.chk (decide (len = l.length)) (.ret ⟨.sr al 0 (len + ys.length) t.size none, b :: ry, [(b, .dead), (al, .arr t ((show List t.den from h ▸ l) ++ ys) true)]⟩))
        | some k => .chk (decide (off + len ≤ l.length)) (.br (decide (len + ys.length ≤ k)) fun p => cond p
            (.ifb live (.ret ⟨.sr b off (len + ys.length) t.size cap, b :: ry, [(b, .arr t (splice (show List t.den from h ▸ l) (off + len) ys) true)]⟩))
            (.ret ⟨.sr al 0 (len + ys.length) t.size none, b :: ry, [(al, .arr t (((show List t.den from h ▸ l).drop off).take len ++ ys) true)]⟩)))) else .fail
      | _ => .fail
    | _ => .fail)
  | .cpy n, [x, y] => match x with
    | .sr b off len sz _ => match look B b with
      | .arr t l true => .ifb (sz == t.size && n == t.size && Nat.blt 0 t.size) (.chk (decide (off ≤ l.length)) ((headOf B t y).bind fun (m, ys, ry) =>
          .chk (decide (min m len ≤ ys.length)) (.ret ⟨.d (.int .i64 ((min m len : Nat) : Int)), b :: ry, [(b, .arr t (splice l off (ys.take (min m len))) true)]⟩)))
      | _ => .fail
    | _ => .fail
  | .mini, x :: xs => (foldM min2 x xs).bind fun v => .ret ⟨v, [], []⟩
  | .maxi, x :: xs => (foldM max2 x xs).bind fun v => .ret ⟨v, [], []⟩
  | .eqb ng, [.d (.bool a), .d (.bool b)] => .ret ⟨.d (.bool (cond ng (!(a == b)) (a == b))), [], []⟩
  | .isnil ng k, [x] => (isNil k x).bind fun b => .ret ⟨.d (.bool (cond ng (!b) b)), [], []⟩
  | .eqs ng ks, [.agg xs, .agg ys] => (eqCells ks xs ys).bind fun b => .ret ⟨.d (.bool (cond ng (!b) b)), [], []⟩
  | .mk t bytes, [n, c] => (asI n).bind fun n => (asI c).bind fun c =>
      .ifb (Nat.blt 0 t.size) (.chk (decide (0 ≤ n) && decide (n ≤ c)) (.chk (decide (c * bytes ≤ 70368744177664) && decide (c ≤ 70368744177664)) (.ret ⟨.sr al 0 n.toNat t.size none, [], [(al, .arr t (List.replicate n.toNat t.dflt) true)]⟩)))
  | .clo f, cs => .ret ⟨.fn f cs, [], []⟩
  | .call f, as => evCallOp byref call f as B al
  | .callv, .fn f caps :: as => evCallOp byref call f (as ++ caps) B al
  | .clr ty, [x] => match x with
    | .sr b off len sz _ => match look B b with
      | .arr t l true => if h : t = ty then .ifb (sz == t.size) (.chk (decide (off + len ≤ l.length)) (.ret ⟨.tup [], [b], [(b, .arr t (splice l off (List.replicate len t.dflt)) true)]⟩)) else .fail
      | _ => .fail
    | _ => .fail
  | .prim g, as => (optM (asDs as)).bind fun ds => (g ds).bind fun r => .ret ⟨.d r, [], []⟩
  | .s2b, [x] => match x with
    | .d (.str s) => .ret ⟨.d (.sl (.int .u8) (s.map fun c => ((c.toNat : Nat) : Int))), [], []⟩
    | _ => .fail
  | .b2s, [x] => .ifb (!x.isStr) ((content B (.int .u8) x).bind fun (l, rs) => .ret ⟨.d (.str (l.map fun (n : Int) => UInt8.ofNat n.toNat)), rs, []⟩)
  | .allocT T zs, [] => .ret ⟨.ptr al 0, [], [(al, .cells (.snil al T :: zs.drop 1))]⟩
  | .sdata, [x] => match x with
    | .d .nils => .ret ⟨.d .nilp, [], []⟩
    | .sr b off len 1 _ => .chk (!decide (len = 0)) (.ret ⟨.eptr b off 1 0, [], []⟩)
    | _ => .fail
  | .ustr, [p, .d (.int k n)] => .ifb (decide (k = .i64)) (match p with
    | .d .nilp => .chk (decide (n = 0)) (.ret ⟨.d (.str []), [], []⟩)
    | .eptr b 0 1 0 => match look B b with
      | .arr (.int .u8) l true => .chk (decide (n = (l.length : Nat)) && !l.isEmpty && decide (l.length ≤ 9223372036854775807) && (show List Int from l).all fun n => decide (0 ≤ n) && decide (n < 256)) (.ret ⟨.d (.str (l.map fun (n : Int) => UInt8.ofNat n.toNat)), [b], [(b, .dead)]⟩)
      | _ => .fail
    | _ => .fail)
  | .appz t bytes, [x, .d (.int k n)] => .ifb (decide (k = .i64) && Nat.blt 0 t.size) (match x with
    | .sr b off len sz (some k) => match look B b with
      | .arr t' l _ => if h : t' = t then .ifb (sz == t.size) (.chk (decide (0 ≤ n) && decide ((len + n.toNat) * bytes ≤ 70368744177664) && decide (off + len ≤ l.length) && decide (k < len + n.toNat))
          (.ret ⟨.sr al 0 (len + n.toNat) t.size none, [b], [(al, .arr t (((show List t.den from h ▸ l).drop off).take len ++ List.replicate n.toNat t.dflt) true)]⟩)) else .fail
      | _ => .fail
    | _ => .fail)
  | .capv, [x] => match x with
    | .sr _ _ _ _ (some k) => .ret ⟨.d (.int .i64 (k : Nat)), [], []⟩
    | .d .nils => .ret ⟨.d (.int .i64 0), [], []⟩
    | _ => .fail
  | .ovl, [x, y] => match x, y with
    | .sr b _ la _ _, .sr b' _ lb _ _ => .ifb (!(b == b') && (match look B b with | .arr _ _ true => true | _ => false) && (match look B b' with | .arr _ _ true => true | _ => false)) (.chk (!decide (la = 0) && !decide (lb = 0)) (.ret ⟨.d (.bool false), [b, b'], []⟩))
    | _, _ => .fail
  | .isnili ng, [x] => match x with
    | .d .nili => .ret ⟨.d (.bool (!ng)), [], []⟩
    | .ifc _ => .ret ⟨.d (.bool ng), [], []⟩
    | _ => .fail
  | _, _ => .fail

def setD (env : Env) (d : Option Nat) (v : AV) : Env :=
  match d with
  | some i => env.set i v
  | none => env

/-- One operation, at a place for what it makes. -/
def evOper (byref : FuncId → Bool) (call : Caller) (o : AOper) (env : Env) (B : Boxes) (al : Nat) : M (Env × Boxes × List Nat × List Nat) :=
  match o.guard with
  | none => (evOp byref call o.op (o.args.map (rdA env)) B al).bind fun r => .ret (setD env o.dst r.val, upd B r.writes, r.reads, r.writes.map (·.1))
  | some (g, want) => match env.getD g .top with
    | .d (.bool b) => .br b fun p => if p == want then (evOp byref call o.op (o.args.map (rdA env)) B al).bind fun r => .ret (setD env o.dst r.val, upd B r.writes, r.reads, r.writes.map (·.1))
        else .ret (setD env o.dst (.tup []), B, [], [])
    | .tup [] => .ret (setD env o.dst (.tup []), B, [], [])
    | _ => .fail

def evOps (byref : FuncId → Bool) (call : Caller) : List AOper → Env → Boxes → M (Env × Boxes)
  | [], env, B => .ret (env, B)
  | o :: os, env, B => (evOper byref call o env B B.length).bind fun (env', B', _, _) => evOps byref call os env' B'

/-- What an operation looks at. -/
def AOper.looks (o : AOper) : List Nat :=
  (o.args.filterMap fun | .tmp i => some i | .val _ => none) ++ (match o.guard with | some (g, _) => [g] | none => [])

/-- One operation's part in a region whose order is open. -/
structure Rec where
  dst : Option Nat
  looks : List Nat
  reads : List Nat
  writes : List Nat

def disj (a b : List Nat) : Bool := a.all fun x => !b.contains x

/-- Two of them may go in either order. -/
def Rec.apart (x y : Rec) : Bool :=
  (match x.dst with | some d => !y.looks.contains d && y.dst != some d | none => true) &&
  (match y.dst with | some d => !x.looks.contains d | none => true) &&
  disj x.writes y.reads && disj x.writes y.writes && disj y.writes x.reads

/-- A region whose order is open, in the order of the text: the operation that stands at i makes its boxes from base + i * room on. -/
def evDrawGo (byref : FuncId → Bool) (call : Caller) (base : Nat) : Nat → List AOper → Env → Boxes → M (Env × Boxes × List Rec)
  | _, [], env, B => .ret (env, B, [])
  | i, o :: os, env, B => (evOper byref call o env B (base + i * room)).bind fun (env', B', rs, ws) =>
    (evDrawGo byref call base (i + 1) os env' B').bind fun (env'', B'', recs) => .ret (env'', B'', ⟨o.dst, o.looks, rs, ws⟩ :: recs)

/-- What must go ahead of each operation: bit j of the i-th number. -/
def ahead (after : List (List Nat)) : List Nat :=
  after.foldl (fun acc es => acc ++ [es.foldl (fun s e => s ||| 2 ^ e ||| acc.getD e 0) 0]) []

/-- Those that nothing orders may go in either order. -/
def apartGo (r : Rec) (j : Nat) (bits : List Nat) : List Rec → Bool
  | [] => true
  | x :: xs => match bits with
    | [] => false
    | b :: bs => (b.testBit j || Rec.apart r x) && apartGo r j bs xs

def apartAll : Nat → List Nat → List Rec → Bool
  | _, _, [] => true
  | j, bits, r :: rs => apartGo r j (bits.drop 1) rs && apartAll (j + 1) (bits.drop 1) rs

def evDraw (byref : FuncId → Bool) (call : Caller) (after : List (List Nat)) (ops : List AOper) (env : Env) (B : Boxes) : M (Env × Boxes) :=
  (evDrawGo byref call B.length 0 ops env (B ++ List.replicate (ops.length * room) .dead)).bind fun (env', B', recs) =>
    .ifb (apartAll 0 (ahead after) recs) (.ret (env', B'))

/-- Only what lives on; the boxes by their places: the first k0 stay. -/
def clear (keep : Nat) (env : Env) : Env := env.mapIdx fun i v => cond (keep.testBit i) v .top

def compact (k0 : Nat) (env : Env) (B : Boxes) : M (Env × Boxes) :=
  let rs := reachGo B 1000 [] (List.range k0 ++ AV.refs.refsL env)
  .ifb ((List.range k0).all fun b => rs[b]? == some b) ((optM (AV.renL (idxIn rs) env)).bind fun env' => (pickBoxes B rs).bind fun B' => .ret (env', B'))

def loopN (k0 keep : Nat) (f : Env → Boxes → M (AEx × Env × Boxes)) : Nat → Env → Boxes → M (AEx × Env × Boxes)
  | 0, _, _ => .fail
  | n + 1, env, B => (compact k0 (clear keep env) B).bind fun (env, B) => (f env B).bind fun (e, env', B') => match e with
    | .normal => loopN k0 keep f n env' B'
    | e => .ret (e, env', B')

def evC (byref : FuncId → Bool) (call : Caller) (n k0 : Nat) : AC → Env → Boxes → M (AEx × Env × Boxes)
  | .skip, env, B => .ret (.normal, env, B)
  | .region ops none, env, B => (evOps byref call ops env B).bind fun (env', B') => .ret (.normal, env', B')
  | .region ops (some after), env, B => (evDraw byref call after ops env B).bind fun (env', B') => .ret (.normal, env', B')
  | .seq a b, env, B => (evC byref call n k0 a env B).bind fun (e, env', B') => match e with
    | .normal => evC byref call n k0 b env' B'
    | e => .ret (e, env', B')
  | .cnd c a b, env, B => match rdA env c with
    | .d (.bool t) => .br t fun p => cond p (evC byref call n k0 a env B) (evC byref call n k0 b env B)
    | _ => .fail
  | .block id a, env, B => (evC byref call n k0 a env B).bind fun (e, env', B') => match e with
    | .exit id' => .ret (if id' = id then .normal else .exit id', env', B')
    | e => .ret (e, env', B')
  | .loop keep a, env, B => loopN k0 keep (evC byref call n k0 a) n env B
  | .exit id, env, B => .ret (.exit id, env, B)
  | .ret, env, B => .ret (.ret, env, B)
  | .bad, _, _ => .fail

def resVal (env : Env) (B : Boxes) : Nat × Option (Bool × Nat) → M AV
  | (i, none) => .ret (env.getD i .top)
  | (i, some (agg, n)) => (cellsAt B (env.getD i .top) n).bind fun (cs, _) => match agg, cs with
    | true, cs => .ret (.agg cs)
    | false, [c] => .ret c
    | false, _ => .fail

def resVals (env : Env) (B : Boxes) : List (Nat × Option (Bool × Nat)) → M (List AV)
  | [] => .ret []
  | r :: rs => (resVal env B r).bind fun v => (resVals env B rs).bind fun vs => .ret (v :: vs)

def oneOf : List AV → AV
  | [v] => v
  | vs => .tup vs

/-- What a function hands back; its boxes: the first k0, and those that it hands back. -/
def finish (k0 : Nat) (plain : Bool) (results : List (Nat × Option (Bool × Nat))) (env : Env) (B : Boxes) : M (AV × Boxes) :=
  (resVals env B results).bind fun vs =>
  (if plain then snapL B vs else M.ret (vs, [])).bind fun (vs, ws) =>
  (compact k0 vs (upd B ws)).bind fun (vs', B') => .ret (oneOf vs', B')

/-- A call. 'F': the functions; 'S': what is known of others. -/
def evCall (F : FuncId → Option AFn) (S : FuncId → Option (List AV → Boxes → M (AV × Boxes))) : Nat → Caller
  | 0, _, _, _ => .fail
  | n + 1, f, args, B => match S f with
    | some s => s args B
    | none => match F f with
      | none => .fail
      | some fn => (evC (fun g => match F g with | some h => h.byref | none => false) (evCall F S n) n B.length fn.body (args ++ List.replicate (fn.ntmps - args.length) (.tup [])) B).bind fun (e, env, B') => match e with
        | .exit _ => .fail
        | _ => finish B.length fn.plain fn.results env B'

end Go.Ev
