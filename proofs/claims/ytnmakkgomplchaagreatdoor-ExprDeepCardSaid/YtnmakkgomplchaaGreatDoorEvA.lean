/- The abstract data of an evaluator of Go code, and how they lie in the model's memory. No condition. -/
import Derived.Laws.AppendOwn
import Derived.Laws.IdiomCopy
import Derived.Orders
import Derived.Tactics
import Derived.Below
namespace Go.Ev
set_option linter.unusedVariables false
set_option linter.unusedSimpArgs false
set_option linter.unusedSectionVars false

/-- A tree: a node's own data and its kids. -/
inductive Rose (α : Type) where
  | mk (a : α) (kids : List (Rose α))

def Rose.data {α : Type} : Rose α → α | .mk a _ => a
def Rose.kids {α : Type} : Rose α → List (Rose α) | .mk _ k => k
theorem Rose.eta {α : Type} (r : Rose α) : Rose.mk r.data r.kids = r := by cases r; rfl

/-- Types of plain data. -/
inductive Ty where
  | int (k : IntKind) | bool | str | unit
  | sl (t : Ty) | pair (a b : Ty) | rose (t : Ty)
  deriving DecidableEq, Inhabited

@[reducible] def Ty.den : Ty → Type
  | .int _ => Int
  | .bool => Bool
  | .str => List UInt8
  | .unit => Unit
  | .sl t => List t.den
  | .pair a b => a.den × b.den
  | .rose t => Rose t.den

def Ty.dflt : (t : Ty) → t.den
  | .int _ => (0 : Int)
  | .bool => false
  | .str => ([] : List UInt8)
  | .unit => ()
  | .sl _ => []
  | .pair a b => (a.dflt, b.dflt)
  | .rose t => .mk t.dflt []

/-- How many cells. -/
def Ty.size : Ty → Nat
  | .int _ | .bool | .str | .sl _ => 1
  | .unit => 0
  | .pair a b => a.size + b.size
  | .rose t => t.size + 1

/-- No slice lies within. -/
def Ty.flat : Ty → Bool
  | .int _ | .bool | .str | .unit => true
  | .sl _ | .rose _ => false
  | .pair a b => a.flat && b.flat

/-- What a cell holds, if it is plain. 'nils': a slice that is nil for sure. -/
inductive D where
  | int (k : IntKind) (n : Int) | bool (b : Bool) | str (l : List UInt8)
  | sl (t : Ty) (l : List t.den)
  | nils | nilp | nilf | nili | nilm

/-- Plain data as cells. -/
def encC : (t : Ty) → t.den → List D
  | .int k, n => [.int k n]
  | .bool, b => [.bool b]
  | .str, l => [.str l]
  | .unit, _ => []
  | .sl t, l => [.sl t l]
  | .pair a b, x => encC a x.1 ++ encC b x.2
  | .rose t, x => encC t x.data ++ [.sl (.rose t) x.kids]

theorem encC_length : ∀ (t : Ty) (x : t.den), (encC t x).length = t.size
  | .int _, _ | .bool, _ | .str, _ | .unit, _ | .sl _, _ => rfl
  | .pair a b, x => by simp [encC, Ty.size, encC_length a, encC_length b]
  | .rose t, x => by simp [encC, Ty.size, encC_length t]

/-- Cells as plain data; what is behind is handed on. -/
def decP : (t : Ty) → List D → Option (t.den × List D)
  | .int k, .int k' n :: r => if k = k' then some (n, r) else none
  | .bool, .bool b :: r => some (b, r)
  | .str, .str l :: r => some (l, r)
  | .unit, r => some ((), r)
  | .sl t, .sl t' l :: r => if h : t' = t then some (h ▸ l, r) else none
  | .sl _, .nils :: r => some ([], r)
  | .pair a b, cs =>
    match decP a cs with
    | none => none
    | some (x, r) => match decP b r with
      | none => none
      | some (y, r') => some ((x, y), r')
  | .rose t, cs =>
    match decP t cs with
    | none => none
    | some (x, .sl t' l :: r) => if h : t' = .rose t then some (.mk x (show List (Ty.rose t).den from h ▸ l), r) else none
    | some (x, .nils :: r) => some (.mk x [], r)
    | some _ => none
  | _, _ => none

/-- Blocks. -/
abbrev Blocks := Nat → Prop

/-- Plain data, as they lie in memory, out of the blocks X: 'g' reads the cells. -/
inductive RD (X : Blocks) (w : World) : (t : Ty) → t.den → (Nat → Option Value) → Prop
  | int {k : IntKind} {n : Int} {g : Nat → Option Value} (h : g 0 = some (.int k n)) : RD X w (.int k) n g
  | bool {b : Bool} {g : Nat → Option Value} (h : g 0 = some (.bool b)) : RD X w .bool b g
  | str {s : ByteArray} {g : Nat → Option Value} (h : g 0 = some (.string s)) : RD X w .str s.data.toList g
  | unit {x : Unit} {g : Nat → Option Value} : RD X w .unit x g
  | nil {t : Ty} {g : Nat → Option Value} (h : g 0 = some (.slice none 0 0)) : RD X w (.sl t) [] g
  | emp {t : Ty} {g : Nat → Option Value} (a : Addr) (cap : Nat) (h : g 0 = some (.slice (some a) 0 cap)) : RD X w (.sl t) [] g
  | sl {t : Ty} {l : List t.den} {g : Nat → Option Value} (c off cap : Nat) (h : g 0 = some (.slice (some ⟨c, off, none⟩) l.length cap)) (hc : l.length ≤ cap)
      (hb : c < w.heap.size) (hs : ¬ X c)
      (hl : ∀ i (hi : i < l.length), RD X w t l[i] (fun j => w.cell? ⟨c, off + i * t.size + j, none⟩)) : RD X w (.sl t) l g
  | pair {a b : Ty} {x : a.den × b.den} {g : Nat → Option Value} (h1 : RD X w a x.1 g) (h2 : RD X w b x.2 (fun j => g (j + a.size))) : RD X w (.pair a b) x g
  | rose {t : Ty} {x : Rose t.den} {g : Nat → Option Value} (h1 : RD X w t x.data g) (h2 : RD X w (.sl (.rose t)) x.kids (fun j => g (j + t.size))) : RD X w (.rose t) x g

/-- What turns between two worlds: what one owns, and new blocks. -/
structure Fr (O : Blocks) (w : World) (O' : Blocks) (w' : World) : Prop where
  os : w'.os = w.os
  tape : w'.tape = w.tape
  output : w'.output = w.output
  size : w.heap.size ≤ w'.heap.size
  blk : ∀ c : Nat, c < w.heap.size → ¬ O c → ¬ O' c ∧ w'.heap[c]? = w.heap[c]?
  shape : ∀ (c : Nat) (arr : Array Value) (e : TypeId) (fz : Nat × Nat), w.heap[c]? = some (Obj.cells arr e fz) → ∃ (arr' : Array Value) (fz' : Nat × Nat), w'.heap[c]? = some (Obj.cells arr' e fz') ∧ arr'.size = arr.size

theorem heap_lt {w : World} {c : Nat} {x : Obj} (h : w.heap[c]? = some x) : c < w.heap.size := (Array.getElem?_eq_some_iff.1 h).1

theorem cell_lt {w : World} {c j : Nat} {v : Value} (h : w.cell? ⟨c, j, none⟩ = some v) : c < w.heap.size := block_lt_of_cell h

theorem cell_of_block {w w' : World} {c j : Nat} (h : w'.heap[c]? = w.heap[c]?) : w'.cell? ⟨c, j, none⟩ = w.cell? ⟨c, j, none⟩ := by
  simp [World.cell?, h]

theorem Fr.refl (O : Blocks) (w : World) : Fr O w O w :=
  ⟨rfl, rfl, rfl, Nat.le_refl _, fun c _ h => ⟨h, rfl⟩, fun c arr e fz h => ⟨arr, fz, h, rfl⟩⟩

theorem Fr.trans {O O' O'' : Blocks} {w w' w'' : World} (h : Fr O w O' w') (k : Fr O' w' O'' w'') : Fr O w O'' w'' := by
  refine ⟨k.os.trans h.os, k.tape.trans h.tape, k.output.trans h.output, Nat.le_trans h.size k.size, fun c hc ho => ?_, fun c arr e fz ha => ?_⟩
  · obtain ⟨h1, h2⟩ := h.blk c hc ho
    obtain ⟨k1, k2⟩ := k.blk c (Nat.lt_of_lt_of_le hc h.size) h1
    exact ⟨k1, k2.trans h2⟩
  · obtain ⟨a1, f1, h1, h2⟩ := h.shape c arr e fz ha
    obtain ⟨a2, f2, k1, k2⟩ := k.shape c a1 e f1 h1
    exact ⟨a2, f2, k1, k2.trans h2⟩

/-- One may own more, and less of what is old. -/
theorem Fr.weak {O O' U U' : Blocks} {w w' : World} (h : Fr O w O' w') (h1 : ∀ c, O c → U c) (h2 : ∀ c, c < w.heap.size → ¬ U c → ¬ U' c) : Fr U w U' w' :=
  ⟨h.os, h.tape, h.output, h.size, fun c hc hu => ⟨h2 c hc hu, (h.blk c hc fun ho => hu (h1 c ho)).2⟩, h.shape⟩

/-- Reading looks at no more cells than the type has. -/
theorem RD.congr {X : Blocks} {w : World} {t : Ty} {x : t.den} {g g' : Nat → Option Value} (h : RD X w t x g) (hg : ∀ j, j < t.size → g' j = g j) : RD X w t x g' := by
  induction h generalizing g' with
  | int h => exact .int (by rw [hg 0 (by simp [Ty.size])]; exact h)
  | bool h => exact .bool (by rw [hg 0 (by simp [Ty.size])]; exact h)
  | str h => exact .str (by rw [hg 0 (by simp [Ty.size])]; exact h)
  | unit => exact .unit
  | nil h => exact .nil (by rw [hg 0 (by simp [Ty.size])]; exact h)
  | emp a cap h => exact .emp a cap (by rw [hg 0 (by simp [Ty.size])]; exact h)
  | sl c off cap h hc hb hs hl => exact .sl c off cap (by rw [hg 0 (by simp [Ty.size])]; exact h) hc hb hs hl
  | pair h1 h2 ih1 ih2 =>
    simp only [Ty.size] at hg
    exact .pair (ih1 fun j hj => hg j (by omega)) (ih2 fun j hj => hg _ (by omega))
  | rose h1 h2 ih1 ih2 =>
    simp only [Ty.size] at hg
    exact .rose (ih1 fun j hj => hg j (by omega)) (ih2 fun j hj => hg _ (by simp [Ty.size] at hj; omega))

theorem RD.some {X : Blocks} {w : World} {t : Ty} {x : t.den} {g : Nat → Option Value} (h : RD X w t x g) : 0 < t.size → ∃ j v, g j = some v := by
  induction h with
  | int h => exact fun _ => ⟨_, _, h⟩
  | bool h => exact fun _ => ⟨_, _, h⟩
  | str h => exact fun _ => ⟨_, _, h⟩
  | unit => exact fun h => by simp [Ty.size] at h
  | nil h => exact fun _ => ⟨_, _, h⟩
  | emp a cap h => exact fun _ => ⟨_, _, h⟩
  | sl c off cap h hc hb hs hl => exact fun _ => ⟨_, _, h⟩
  | @pair a b x g h1 h2 ih1 ih2 =>
    intro hs
    rcases Nat.eq_zero_or_pos a.size with h0 | h0
    · obtain ⟨j, v, h⟩ := ih2 (by simp [Ty.size] at hs; omega); exact ⟨_, _, h⟩
    · exact ih1 h0
  | rose h1 h2 ih1 ih2 => intro _; obtain ⟨j, v, h⟩ := ih2 (by simp [Ty.size]); exact ⟨_, _, h⟩

/-- A reading stays, where its cells do: from blocks that are not in X to such as are not in X'. -/
theorem RD.move {X X' : Blocks} {w w' : World} (hz : w.heap.size ≤ w'.heap.size) (hf : ∀ c, c < w.heap.size → ¬ X c → ¬ X' c ∧ w'.heap[c]? = w.heap[c]?)
    {t : Ty} {x : t.den} {g : Nat → Option Value} (h : RD X w t x g) :
    ∀ g', (∀ j, j < t.size → ∀ v, g j = Option.some v → g' j = Option.some v) → RD X' w' t x g' := by
  induction h with
  | int h => exact fun g' hg => .int (hg 0 (by simp [Ty.size]) _ h)
  | bool h => exact fun g' hg => .bool (hg 0 (by simp [Ty.size]) _ h)
  | str h => exact fun g' hg => .str (hg 0 (by simp [Ty.size]) _ h)
  | unit => exact fun g' hg => .unit
  | nil h => exact fun g' hg => .nil (hg 0 (by simp [Ty.size]) _ h)
  | emp a cap h => exact fun g' hg => .emp a cap (hg 0 (by simp [Ty.size]) _ h)
  | @sl t l g c off cap h hc hb hs hl ih =>
    intro g' hg
    refine .sl c off cap (hg 0 (by simp [Ty.size]) _ h) hc (Nat.lt_of_lt_of_le hb hz) (hf c hb hs).1 (fun i hi => ih i hi _ fun j hj v hv => ?_)
    rw [cell_of_block (hf c hb hs).2]
    exact hv
  | pair h1 h2 ih1 ih2 =>
    intro g' hg
    simp only [Ty.size] at hg
    exact .pair (ih1 _ fun j hj => hg j (by omega)) (ih2 _ fun j hj => hg _ (by omega))
  | rose h1 h2 ih1 ih2 =>
    intro g' hg
    simp only [Ty.size] at hg
    exact .rose (ih1 _ fun j hj => hg j (by omega)) (ih2 _ fun j hj => hg _ (by simp [Ty.size] at hj; omega))

/-- What a cell holds that is plain. -/
def VRd (X : Blocks) (w : World) : D → Value → Prop
  | .int k n, v => v = .int k n
  | .bool b, v => v = .bool b
  | .str l, v => ∃ s : ByteArray, v = .string s ∧ s.data.toList = l
  | .sl t l, v => RD X w (.sl t) l (fun _ => some v)
  | .nils, v => v = .slice none 0 0
  | .nilp, v => v = .pointer none
  | .nilf, v => v = .nilFunc
  | .nili, v => v = .nilIface
  | .nilm, v => v = .map none

theorem VRd.move {X X' : Blocks} {w w' : World} (hz : w.heap.size ≤ w'.heap.size) (hf : ∀ c, c < w.heap.size → ¬ X c → ¬ X' c ∧ w'.heap[c]? = w.heap[c]?)
    {d : D} {v : Value} (h : VRd X w d v) : VRd X' w' d v := by
  cases d <;> first | exact h | exact RD.move hz hf h _ (fun _ _ _ e => e)

theorem RD.slice {X : Blocks} {w : World} {t : Ty} {l : List t.den} {g : Nat → Option Value} (h : RD X w (.sl t) l g) :
    ∃ v, g 0 = Option.some v ∧ ((∃ (a : Option Addr) (cap : Nat), v = .slice a 0 cap ∧ (a = none → cap = 0) ∧ l = []) ∨ ∃ c off cap, v = .slice (Option.some ⟨c, off, none⟩) l.length cap ∧ l.length ≤ cap ∧ c < w.heap.size ∧ ¬ X c ∧
      ∀ i (hi : i < l.length), RD X w t l[i] (fun j => w.cell? ⟨c, off + i * t.size + j, none⟩)) := by
  cases h with
  | nil h => exact ⟨_, h, .inl ⟨none, 0, rfl, fun _ => rfl, rfl⟩⟩
  | emp a cap h => exact ⟨_, h, .inl ⟨Option.some a, cap, rfl, fun h => (by cases h), rfl⟩⟩
  | sl c off cap h hc hb hs hl => exact ⟨_, h, .inr ⟨c, off, cap, rfl, hc, hb, hs, hl⟩⟩

theorem VRd.oneCell {X : Blocks} {w : World} {d : D} {v : Value} (h : VRd X w d v) : v.oneCell' = true := by
  cases d <;> simp only [VRd] at h
  case str => obtain ⟨s, rfl, _⟩ := h; rfl
  case sl t l =>
    obtain ⟨v', e, h⟩ := RD.slice h
    cases e
    rcases h with ⟨_, _, rfl, _⟩ | ⟨c, off, cap, rfl, _⟩ <;> rfl
  all_goals subst h; rfl

/-- Plain data as cells, one by one. -/
theorem RD.cells {X : Blocks} {w : World} {t : Ty} {x : t.den} {g : Nat → Option Value} (h : RD X w t x g) :
    ∀ j d, (encC t x)[j]? = Option.some d → ∃ v, g j = Option.some v ∧ VRd X w d v := by
  induction h with
  | int h => intro j d hd; cases j <;> simp [encC] at hd; subst hd; exact ⟨_, h, rfl⟩
  | bool h => intro j d hd; cases j <;> simp [encC] at hd; subst hd; exact ⟨_, h, rfl⟩
  | str h => intro j d hd; cases j <;> simp [encC] at hd; subst hd; exact ⟨_, h, _, rfl, rfl⟩
  | unit => intro j d hd; simp [encC] at hd
  | nil h => intro j d hd; cases j <;> simp [encC] at hd; subst hd; exact ⟨_, h, .nil rfl⟩
  | emp a cap h => intro j d hd; cases j <;> simp [encC] at hd; subst hd; exact ⟨_, h, .emp a cap rfl⟩
  | sl c off cap h hc hb hs hl => intro j d hd; cases j <;> simp [encC] at hd; subst hd; exact ⟨_, h, .sl c off cap rfl hc hb hs hl⟩
  | @pair a b x g h1 h2 ih1 ih2 =>
    intro j d hd
    simp only [encC, List.getElem?_append, encC_length] at hd
    split at hd
    · exact ih1 j d hd
    · obtain ⟨v, hv, hr⟩ := ih2 _ d hd
      exact ⟨v, by rw [← hv]; congr 1; omega, hr⟩
  | @rose t x g h1 h2 ih1 ih2 =>
    intro j d hd
    simp only [encC, List.getElem?_append, encC_length] at hd
    split at hd
    · exact ih1 j d hd
    · obtain ⟨v, hv, hr⟩ := ih2 (j - t.size) d (by simpa [encC] using hd)
      exact ⟨v, by rw [← hv]; congr 1; omega, hr⟩

/-- Empty, whatever its address is. -/
theorem RD.empty {X : Blocks} {w : World} {t : Ty} {a : Option Addr} {cap : Nat} {g : Nat → Option Value} (ha : a = none → cap = 0) (h : g 0 = Option.some (.slice a 0 cap)) : RD X w (.sl t) [] g := by
  cases a with
  | none => rw [ha rfl] at h; exact .nil h
  | some a => exact .emp a cap h

theorem RD.ofVRd {X : Blocks} {w : World} {t : Ty} {l : List t.den} {v : Value} {g : Nat → Option Value} (h : VRd X w (.sl t l) v) (hg : g 0 = Option.some v) : RD X w (.sl t) l g :=
  RD.congr h fun j hj => by simp [Ty.size] at hj; subst hj; exact hg

theorem decP_RD {X : Blocks} {w : World} : ∀ (t : Ty) (cs : List D) (x : t.den) (r : List D) (g : Nat → Option Value), decP t cs = some (x, r) →
    (∀ j d, cs[j]? = some d → ∃ v, g j = some v ∧ VRd X w d v) → RD X w t x g ∧ r = cs.drop t.size ∧ t.size ≤ cs.length
  | .int k, cs, x, r, g, h, hg => by
    match cs, h with
    | .int k' n :: r', h =>
      simp only [decP] at h
      split at h <;> simp at h
      rename_i hk; subst hk
      obtain ⟨rfl, rfl⟩ := h
      obtain ⟨v, hv, hr⟩ := hg 0 _ rfl
      cases hr
      exact ⟨.int hv, by simp [Ty.size], by simp [Ty.size]⟩
  | .bool, cs, x, r, g, h, hg => by
    match cs, h with
    | .bool b :: r', h =>
      simp [decP] at h
      obtain ⟨rfl, rfl⟩ := h
      obtain ⟨v, hv, hr⟩ := hg 0 _ rfl
      cases hr
      exact ⟨.bool hv, by simp [Ty.size], by simp [Ty.size]⟩
  | .str, cs, x, r, g, h, hg => by
    match cs, h with
    | .str b :: r', h =>
      simp [decP] at h
      obtain ⟨rfl, rfl⟩ := h
      obtain ⟨v, hv, s, rfl, rfl⟩ := hg 0 _ rfl
      exact ⟨.str hv, by simp [Ty.size], by simp [Ty.size]⟩
  | .unit, cs, x, r, g, h, hg => by
    simp [decP] at h
    subst h
    exact ⟨.unit, by simp [Ty.size], by simp [Ty.size]⟩
  | .sl t, cs, x, r, g, h, hg => by
    match cs, h with
    | .sl t' l :: r', h =>
      simp only [decP] at h
      split at h <;> simp at h
      rename_i ht; subst ht
      obtain ⟨rfl, rfl⟩ := h
      obtain ⟨v, hv, hr⟩ := hg 0 _ rfl
      exact ⟨RD.ofVRd hr hv, by simp [Ty.size], by simp [Ty.size]⟩
    | .nils :: r', h =>
      simp [decP] at h
      obtain ⟨rfl, rfl⟩ := h
      obtain ⟨v, hv, hr⟩ := hg 0 _ rfl
      cases hr
      exact ⟨.nil hv, by simp [Ty.size], by simp [Ty.size]⟩
  | .pair a b, cs, x, r, g, h, hg => by
    simp only [decP] at h
    split at h
    · cases h
    · rename_i y r1 h1
      split at h
      · cases h
      · rename_i z r2 h2
        simp at h
        obtain ⟨rfl, rfl⟩ := h
        obtain ⟨p1, p2, p3⟩ := decP_RD a cs y r1 g h1 hg
        subst p2
        obtain ⟨q1, q2, q3⟩ := decP_RD b _ z r2 (fun j => g (j + a.size)) h2 (fun j d hd => by
          rw [List.getElem?_drop] at hd
          have := hg _ d hd
          rwa [Nat.add_comm] at this)
        refine ⟨.pair p1 q1, ?_, ?_⟩
        · rw [q2, List.drop_drop]; rfl
        · simp only [Ty.size]; simp at q3; omega
  | .rose t, cs, x, r, g, h, hg => by
    simp only [decP] at h
    split at h
    · cases h
    · rename_i y t' l r1 h1
      obtain ⟨p1, p2, p3⟩ := decP_RD t cs y _ g h1 hg
      have hlen : t.size < cs.length := by have := congrArg List.length p2; simp at this; omega
      split at h <;> simp at h
      rename_i ht; subst ht
      obtain ⟨rfl, rfl⟩ := h
      have hd : cs[t.size]? = some (.sl (.rose t) l) := by
        have := congrArg (·[0]?) p2
        simpa [List.getElem?_drop] using this.symm
      obtain ⟨v, hv, hr⟩ := hg _ _ hd
      refine ⟨.rose p1 (RD.ofVRd hr (by simpa using hv)), ?_, by simp [Ty.size]; omega⟩
      have := congrArg (List.drop 1) p2
      simpa [List.drop_drop, Ty.size, Nat.add_comm] using this
    · rename_i y r1 h1
      obtain ⟨p1, p2, p3⟩ := decP_RD t cs y _ g h1 hg
      have hlen : t.size < cs.length := by have := congrArg List.length p2; simp at this; omega
      simp at h
      obtain ⟨rfl, rfl⟩ := h
      have hd : cs[t.size]? = some .nils := by
        have := congrArg (·[0]?) p2
        simpa [List.getElem?_drop] using this.symm
      obtain ⟨v, hv, hr⟩ := hg _ _ hd
      cases hr
      refine ⟨.rose p1 (.nil (by simpa using hv)), ?_, by simp [Ty.size]; omega⟩
      have := congrArg (List.drop 1) p2
      simpa [List.drop_drop, Ty.size, Nat.add_comm] using this
    · cases h

end Go.Ev
