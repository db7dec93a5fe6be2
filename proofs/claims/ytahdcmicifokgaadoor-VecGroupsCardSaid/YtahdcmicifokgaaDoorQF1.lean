/- The abstract data of an evaluator of Go code, and how they lie in the model's memory. No condition. Abstract values and boxes of an evaluator of Go code, and how they lie in the model's memory. No condition. An evaluator of Go code over abstract values. No condition. The evaluator's operations are the model's: what a step leaves. No condition. From the model's code to the evaluator's. No condition -/
import Derived.Laws.AppendOwn
import Derived.Laws.IdiomCopy
import Derived.Orders
import Derived.Tactics
import Derived.Below
import Derived.Lib.Bytealg
import Derived.Deep.MidRow
import Derived.Laws.StructEq
import Derived.Laws.Cover3
import Derived.Laws.Pointers
import Derived.Laws.MakeOwn
namespace Go.Ev
set_option linter.unusedVariables false
set_option linter.unusedSimpArgs false
set_option linter.unusedSectionVars false

inductive Rose (α : Type) where
  | mk (a : α) (kids : List (Rose α))

def Rose.data {α : Type} : Rose α → α | .mk a _ => a
def Rose.kids {α : Type} : Rose α → List (Rose α) | .mk _ k => k
theorem Rose.eta {α : Type} (r : Rose α) : Rose.mk r.data r.kids = r := by cases r; rfl

inductive Ty where
  | int (k : IntKind) | bool | str | unit
  | sl (t : Ty) | pair (a b : Ty) | rose (t : Ty)
  deriving DecidableEq, Inhabited

@[reducible] def Ty.den : Ty → Type
  | .int _ => Int
  | .bool => Bool
  | .str => List UInt8
  | .unit => Unit
  | .sl t => List t.den
  | .pair a b => a.den × b.den
  | .rose t => Rose t.den

def Ty.dflt : (t : Ty) → t.den
  | .int _ => (0 : Int)
  | .bool => false
  | .str => ([] : List UInt8)
  | .unit => ()
  | .sl _ => []
  | .pair a b => (a.dflt, b.dflt)
  | .rose t => .mk t.dflt []

def Ty.size : Ty → Nat
  | .int _ | .bool | .str | .sl _ => 1
  | .unit => 0
  | .pair a b => a.size + b.size
  | .rose t => t.size + 1

def Ty.flat : Ty → Bool
  | .int _ | .bool | .str | .unit => true
  | .sl _ | .rose _ => false
  | .pair a b => a.flat && b.flat

inductive D where
  | int (k : IntKind) (n : Int) | bool (b : Bool) | str (l : List UInt8)
  | sl (t : Ty) (l : List t.den)
  | nils | nilp | nilf | nili | nilm

def encC : (t : Ty) → t.den → List D
  | .int k, n => [.int k n]
  | .bool, b => [.bool b]
  | .str, l => [.str l]
  | .unit, _ => []
  | .sl t, l => [.sl t l]
  | .pair a b, x => encC a x.1 ++ encC b x.2
  | .rose t, x => encC t x.data ++ [.sl (.rose t) x.kids]

theorem encC_length : ∀ (t : Ty) (x : t.den), (encC t x).length = t.size
  | .int _, _ | .bool, _ | .str, _ | .unit, _ | .sl _, _ => rfl
  | .pair a b, x => by simp [encC, Ty.size, encC_length a, encC_length b]
  | .rose t, x => by simp [encC, Ty.size, encC_length t]

def decP : (t : Ty) → List D → Option (t.den × List D)
  | .int k, .int k' n :: r => if k = k' then some (n, r) else none
  | .bool, .bool b :: r => some (b, r)
  | .str, .str l :: r => some (l, r)
  | .unit, r => some ((), r)
  | .sl t, .sl t' l :: r => if h : t' = t then some (h ▸ l, r) else none
  | .sl _, .nils :: r => some ([], r)
  | .pair a b, cs =>
    match decP a cs with
    | none => none
    | some (x, r) => match decP b r with
      | none => none
      | some (y, r') => some ((x, y), r')
  | .rose t, cs =>
    match decP t cs with
    | none => none
    | some (x, .sl t' l :: r) => if h : t' = .rose t then some (.mk x (show List (Ty.rose t).den from h ▸ l), r) else none
    | some (x, .nils :: r) => some (.mk x [], r)
    | some _ => none
  | _, _ => none

abbrev Blocks := Nat → Prop

inductive RD (X : Blocks) (w : World) : (t : Ty) → t.den → (Nat → Option Value) → Prop
  | int {k : IntKind} {n : Int} {g : Nat → Option Value} (h : g 0 = some (.int k n)) : RD X w (.int k) n g
  | bool {b : Bool} {g : Nat → Option Value} (h : g 0 = some (.bool b)) : RD X w .bool b g
  | str {s : ByteArray} {g : Nat → Option Value} (h : g 0 = some (.string s)) : RD X w .str s.data.toList g
  | unit {x : Unit} {g : Nat → Option Value} : RD X w .unit x g
  | nil {t : Ty} {g : Nat → Option Value} (h : g 0 = some (.slice none 0 0)) : RD X w (.sl t) [] g
  | emp {t : Ty} {g : Nat → Option Value} (a : Addr) (cap : Nat) (h : g 0 = some (.slice (some a) 0 cap)) : RD X w (.sl t) [] g
  | sl {t : Ty} {l : List t.den} {g : Nat → Option Value} (c off cap : Nat) (h : g 0 = some (.slice (some ⟨c, off, none⟩) l.length cap)) (hc : l.length ≤ cap)
      (hb : c < w.heap.size) (hs : ¬ X c)
      (hl : ∀ i (hi : i < l.length), RD X w t l[i] (fun j => w.cell? ⟨c, off + i * t.size + j, none⟩)) : RD X w (.sl t) l g
  | pair {a b : Ty} {x : a.den × b.den} {g : Nat → Option Value} (h1 : RD X w a x.1 g) (h2 : RD X w b x.2 (fun j => g (j + a.size))) : RD X w (.pair a b) x g
  | rose {t : Ty} {x : Rose t.den} {g : Nat → Option Value} (h1 : RD X w t x.data g) (h2 : RD X w (.sl (.rose t)) x.kids (fun j => g (j + t.size))) : RD X w (.rose t) x g

structure Fr (O : Blocks) (w : World) (O' : Blocks) (w' : World) : Prop where
  os : w'.os = w.os
  tape : w'.tape = w.tape
  output : w'.output = w.output
  size : w.heap.size ≤ w'.heap.size
  blk : ∀ c : Nat, c < w.heap.size → ¬ O c → ¬ O' c ∧ w'.heap[c]? = w.heap[c]?
  shape : ∀ (c : Nat) (arr : Array Value) (e : TypeId) (fz : Nat × Nat), w.heap[c]? = some (Obj.cells arr e fz) → ∃ (arr' : Array Value) (fz' : Nat × Nat), w'.heap[c]? = some (Obj.cells arr' e fz') ∧ arr'.size = arr.size

theorem heap_lt {w : World} {c : Nat} {x : Obj} (h : w.heap[c]? = some x) : c < w.heap.size := (Array.getElem?_eq_some_iff.1 h).1

theorem cell_lt {w : World} {c j : Nat} {v : Value} (h : w.cell? ⟨c, j, none⟩ = some v) : c < w.heap.size := block_lt_of_cell h

theorem cell_of_block {w w' : World} {c j : Nat} (h : w'.heap[c]? = w.heap[c]?) : w'.cell? ⟨c, j, none⟩ = w.cell? ⟨c, j, none⟩ := by
  simp [World.cell?, h]

theorem Fr.refl (O : Blocks) (w : World) : Fr O w O w :=
  ⟨rfl, rfl, rfl, Nat.le_refl _, fun c _ h => ⟨h, rfl⟩, fun c arr e fz h => ⟨arr, fz, h, rfl⟩⟩

theorem Fr.trans {O O' O'' : Blocks} {w w' w'' : World} (h : Fr O w O' w') (k : Fr O' w' O'' w'') : Fr O w O'' w'' := by
  refine ⟨k.os.trans h.os, k.tape.trans h.tape, k.output.trans h.output, Nat.le_trans h.size k.size, fun c hc ho => ?_, fun c arr e fz ha => ?_⟩
  · obtain ⟨h1, h2⟩ := h.blk c hc ho
    obtain ⟨k1, k2⟩ := k.blk c (Nat.lt_of_lt_of_le hc h.size) h1
    exact ⟨k1, k2.trans h2⟩
  · obtain ⟨a1, f1, h1, h2⟩ := h.shape c arr e fz ha
    obtain ⟨a2, f2, k1, k2⟩ := k.shape c a1 e f1 h1
    exact ⟨a2, f2, k1, k2.trans h2⟩

theorem Fr.weak {O O' U U' : Blocks} {w w' : World} (h : Fr O w O' w') (h1 : ∀ c, O c → U c) (h2 : ∀ c, c < w.heap.size → ¬ U c → ¬ U' c) : Fr U w U' w' :=
  ⟨h.os, h.tape, h.output, h.size, fun c hc hu => ⟨h2 c hc hu, (h.blk c hc fun ho => hu (h1 c ho)).2⟩, h.shape⟩

theorem RD.congr {X : Blocks} {w : World} {t : Ty} {x : t.den} {g g' : Nat → Option Value} (h : RD X w t x g) (hg : ∀ j, j < t.size → g' j = g j) : RD X w t x g' := by
  induction h generalizing g' with
  | int h => exact .int (by rw [hg 0 (by simp [Ty.size])]; exact h)
  | bool h => exact .bool (by rw [hg 0 (by simp [Ty.size])]; exact h)
  | str h => exact .str (by rw [hg 0 (by simp [Ty.size])]; exact h)
  | unit => exact .unit
  | nil h => exact .nil (by rw [hg 0 (by simp [Ty.size])]; exact h)
  | emp a cap h => exact .emp a cap (by rw [hg 0 (by simp [Ty.size])]; exact h)
  | sl c off cap h hc hb hs hl => exact .sl c off cap (by rw [hg 0 (by simp [Ty.size])]; exact h) hc hb hs hl
  | pair h1 h2 ih1 ih2 =>
    simp only [Ty.size] at hg
    exact .pair (ih1 fun j hj => hg j (by omega)) (ih2 fun j hj => hg _ (by omega))
  | rose h1 h2 ih1 ih2 =>
    simp only [Ty.size] at hg
    exact .rose (ih1 fun j hj => hg j (by omega)) (ih2 fun j hj => hg _ (by simp [Ty.size] at hj; omega))

theorem RD.some {X : Blocks} {w : World} {t : Ty} {x : t.den} {g : Nat → Option Value} (h : RD X w t x g) : 0 < t.size → ∃ j v, g j = some v := by
  induction h with
  | int h => exact fun _ => ⟨_, _, h⟩
  | bool h => exact fun _ => ⟨_, _, h⟩
  | str h => exact fun _ => ⟨_, _, h⟩
  | unit => exact fun h => by simp [Ty.size] at h
  | nil h => exact fun _ => ⟨_, _, h⟩
  | emp a cap h => exact fun _ => ⟨_, _, h⟩
  | sl c off cap h hc hb hs hl => exact fun _ => ⟨_, _, h⟩
  | @pair a b x g h1 h2 ih1 ih2 =>
    intro hs
    rcases Nat.eq_zero_or_pos a.size with h0 | h0
    · obtain ⟨j, v, h⟩ := ih2 (by simp [Ty.size] at hs; omega); exact ⟨_, _, h⟩
    · exact ih1 h0
  | rose h1 h2 ih1 ih2 => intro _; obtain ⟨j, v, h⟩ := ih2 (by simp [Ty.size]); exact ⟨_, _, h⟩

theorem RD.move {X X' : Blocks} {w w' : World} (hz : w.heap.size ≤ w'.heap.size) (hf : ∀ c, c < w.heap.size → ¬ X c → ¬ X' c ∧ w'.heap[c]? = w.heap[c]?)
    {t : Ty} {x : t.den} {g : Nat → Option Value} (h : RD X w t x g) :
    ∀ g', (∀ j, j < t.size → ∀ v, g j = Option.some v → g' j = Option.some v) → RD X' w' t x g' := by
  induction h with
  | int h => exact fun g' hg => .int (hg 0 (by simp [Ty.size]) _ h)
  | bool h => exact fun g' hg => .bool (hg 0 (by simp [Ty.size]) _ h)
  | str h => exact fun g' hg => .str (hg 0 (by simp [Ty.size]) _ h)
  | unit => exact fun g' hg => .unit
  | nil h => exact fun g' hg => .nil (hg 0 (by simp [Ty.size]) _ h)
  | emp a cap h => exact fun g' hg => .emp a cap (hg 0 (by simp [Ty.size]) _ h)
  | @sl t l g c off cap h hc hb hs hl ih =>
    intro g' hg
    refine .sl c off cap (hg 0 (by simp [Ty.size]) _ h) hc (Nat.lt_of_lt_of_le hb hz) (hf c hb hs).1 (fun i hi => ih i hi _ fun j hj v hv => ?_)
    rw [cell_of_block (hf c hb hs).2]
    exact hv
  | pair h1 h2 ih1 ih2 =>
    intro g' hg
    simp only [Ty.size] at hg
    exact .pair (ih1 _ fun j hj => hg j (by omega)) (ih2 _ fun j hj => hg _ (by omega))
  | rose h1 h2 ih1 ih2 =>
    intro g' hg
    simp only [Ty.size] at hg
    exact .rose (ih1 _ fun j hj => hg j (by omega)) (ih2 _ fun j hj => hg _ (by simp [Ty.size] at hj; omega))

def VRd (X : Blocks) (w : World) : D → Value → Prop
  | .int k n, v => v = .int k n
  | .bool b, v => v = .bool b
  | .str l, v => ∃ s : ByteArray, v = .string s ∧ s.data.toList = l
  | .sl t l, v => RD X w (.sl t) l (fun _ => some v)
  | .nils, v => v = .slice none 0 0
  | .nilp, v => v = .pointer none
  | .nilf, v => v = .nilFunc
  | .nili, v => v = .nilIface
  | .nilm, v => v = .map none

theorem VRd.move {X X' : Blocks} {w w' : World} (hz : w.heap.size ≤ w'.heap.size) (hf : ∀ c, c < w.heap.size → ¬ X c → ¬ X' c ∧ w'.heap[c]? = w.heap[c]?)
    {d : D} {v : Value} (h : VRd X w d v) : VRd X' w' d v := by
  cases d <;> first | exact h | exact RD.move hz hf h _ (fun _ _ _ e => e)

theorem RD.slice {X : Blocks} {w : World} {t : Ty} {l : List t.den} {g : Nat → Option Value} (h : RD X w (.sl t) l g) :
    ∃ v, g 0 = Option.some v ∧ ((∃ (a : Option Addr) (cap : Nat), v = .slice a 0 cap ∧ (a = none → cap = 0) ∧ l = []) ∨ ∃ c off cap, v = .slice (Option.some ⟨c, off, none⟩) l.length cap ∧ l.length ≤ cap ∧ c < w.heap.size ∧ ¬ X c ∧
      ∀ i (hi : i < l.length), RD X w t l[i] (fun j => w.cell? ⟨c, off + i * t.size + j, none⟩)) := by
  cases h with
  | nil h => exact ⟨_, h, .inl ⟨none, 0, rfl, fun _ => rfl, rfl⟩⟩
  | emp a cap h => exact ⟨_, h, .inl ⟨Option.some a, cap, rfl, fun h => (by cases h), rfl⟩⟩
  | sl c off cap h hc hb hs hl => exact ⟨_, h, .inr ⟨c, off, cap, rfl, hc, hb, hs, hl⟩⟩

theorem VRd.oneCell {X : Blocks} {w : World} {d : D} {v : Value} (h : VRd X w d v) : v.oneCell' = true := by
  cases d <;> simp only [VRd] at h
  case str => obtain ⟨s, rfl, _⟩ := h; rfl
  case sl t l =>
    obtain ⟨v', e, h⟩ := RD.slice h
    cases e
    rcases h with ⟨_, _, rfl, _⟩ | ⟨c, off, cap, rfl, _⟩ <;> rfl
  all_goals subst h; rfl

theorem RD.cells {X : Blocks} {w : World} {t : Ty} {x : t.den} {g : Nat → Option Value} (h : RD X w t x g) :
    ∀ j d, (encC t x)[j]? = Option.some d → ∃ v, g j = Option.some v ∧ VRd X w d v := by
  induction h with
  | int h => intro j d hd; cases j <;> simp [encC] at hd; subst hd; exact ⟨_, h, rfl⟩
  | bool h => intro j d hd; cases j <;> simp [encC] at hd; subst hd; exact ⟨_, h, rfl⟩
  | str h => intro j d hd; cases j <;> simp [encC] at hd; subst hd; exact ⟨_, h, _, rfl, rfl⟩
  | unit => intro j d hd; simp [encC] at hd
  | nil h => intro j d hd; cases j <;> simp [encC] at hd; subst hd; exact ⟨_, h, .nil rfl⟩
  | emp a cap h => intro j d hd; cases j <;> simp [encC] at hd; subst hd; exact ⟨_, h, .emp a cap rfl⟩
  | sl c off cap h hc hb hs hl => intro j d hd; cases j <;> simp [encC] at hd; subst hd; exact ⟨_, h, .sl c off cap rfl hc hb hs hl⟩
  | @pair a b x g h1 h2 ih1 ih2 =>
    intro j d hd
    simp only [encC, List.getElem?_append, encC_length] at hd
    split at hd
    · exact ih1 j d hd
    · obtain ⟨v, hv, hr⟩ := ih2 _ d hd
      exact ⟨v, by rw [← hv]; congr 1; omega, hr⟩
  | @rose t x g h1 h2 ih1 ih2 =>
    intro j d hd
    simp only [encC, List.getElem?_append, encC_length] at hd
    split at hd
    · exact ih1 j d hd
    · obtain ⟨v, hv, hr⟩ := ih2 (j - t.size) d (by simpa [encC] using hd)
      exact ⟨v, by rw [← hv]; congr 1; omega, hr⟩

theorem RD.empty {X : Blocks} {w : World} {t : Ty} {a : Option Addr} {cap : Nat} {g : Nat → Option Value} (ha : a = none → cap = 0) (h : g 0 = Option.some (.slice a 0 cap)) : RD X w (.sl t) [] g := by
  cases a with
  | none => rw [ha rfl] at h; exact .nil h
  | some a => exact .emp a cap h

theorem RD.ofVRd {X : Blocks} {w : World} {t : Ty} {l : List t.den} {v : Value} {g : Nat → Option Value} (h : VRd X w (.sl t l) v) (hg : g 0 = Option.some v) : RD X w (.sl t) l g :=
  RD.congr h fun j hj => by simp [Ty.size] at hj; subst hj; exact hg

theorem decP_RD {X : Blocks} {w : World} : ∀ (t : Ty) (cs : List D) (x : t.den) (r : List D) (g : Nat → Option Value), decP t cs = some (x, r) →
    (∀ j d, cs[j]? = some d → ∃ v, g j = some v ∧ VRd X w d v) → RD X w t x g ∧ r = cs.drop t.size ∧ t.size ≤ cs.length
  | .int k, cs, x, r, g, h, hg => by
    match cs, h with
    | .int k' n :: r', h =>
      simp only [decP] at h
      split at h <;> simp at h
      rename_i hk; subst hk
      obtain ⟨rfl, rfl⟩ := h
      obtain ⟨v, hv, hr⟩ := hg 0 _ rfl
      cases hr
      exact ⟨.int hv, by simp [Ty.size], by simp [Ty.size]⟩
  | .bool, cs, x, r, g, h, hg => by
    match cs, h with
    | .bool b :: r', h =>
      simp [decP] at h
      obtain ⟨rfl, rfl⟩ := h
      obtain ⟨v, hv, hr⟩ := hg 0 _ rfl
      cases hr
      exact ⟨.bool hv, by simp [Ty.size], by simp [Ty.size]⟩
  | .str, cs, x, r, g, h, hg => by
    match cs, h with
    | .str b :: r', h =>
      simp [decP] at h
      obtain ⟨rfl, rfl⟩ := h
      obtain ⟨v, hv, s, rfl, rfl⟩ := hg 0 _ rfl
      exact ⟨.str hv, by simp [Ty.size], by simp [Ty.size]⟩
  | .unit, cs, x, r, g, h, hg => by
    simp [decP] at h
    subst h
    exact ⟨.unit, by simp [Ty.size], by simp [Ty.size]⟩
  | .sl t, cs, x, r, g, h, hg => by
    match cs, h with
    | .sl t' l :: r', h =>
      simp only [decP] at h
      split at h <;> simp at h
      rename_i ht; subst ht
      obtain ⟨rfl, rfl⟩ := h
      obtain ⟨v, hv, hr⟩ := hg 0 _ rfl
      exact ⟨RD.ofVRd hr hv, by simp [Ty.size], by simp [Ty.size]⟩
    | .nils :: r', h =>
      simp [decP] at h
      obtain ⟨rfl, rfl⟩ := h
      obtain ⟨v, hv, hr⟩ := hg 0 _ rfl
      cases hr
      exact ⟨.nil hv, by simp [Ty.size], by simp [Ty.size]⟩
  | .pair a b, cs, x, r, g, h, hg => by
    simp only [decP] at h
    split at h
    · cases h
    · rename_i y r1 h1
      split at h
      · cases h
      · rename_i z r2 h2
        simp at h
        obtain ⟨rfl, rfl⟩ := h
        obtain ⟨p1, p2, p3⟩ := decP_RD a cs y r1 g h1 hg
        subst p2
        obtain ⟨q1, q2, q3⟩ := decP_RD b _ z r2 (fun j => g (j + a.size)) h2 (fun j d hd => by
          rw [List.getElem?_drop] at hd
          have := hg _ d hd
          rwa [Nat.add_comm] at this)
        refine ⟨.pair p1 q1, ?_, ?_⟩
        · rw [q2, List.drop_drop]; rfl
        · simp only [Ty.size]; simp at q3; omega
  | .rose t, cs, x, r, g, h, hg => by
    simp only [decP] at h
    split at h
    · cases h
    · rename_i y t' l r1 h1
      obtain ⟨p1, p2, p3⟩ := decP_RD t cs y _ g h1 hg
      have hlen : t.size < cs.length := by have := congrArg List.length p2; simp at this; omega
      split at h <;> simp at h
      rename_i ht; subst ht
      obtain ⟨rfl, rfl⟩ := h
      have hd : cs[t.size]? = some (.sl (.rose t) l) := by
        have := congrArg (·[0]?) p2
        simpa [List.getElem?_drop] using this.symm
      obtain ⟨v, hv, hr⟩ := hg _ _ hd
      refine ⟨.rose p1 (RD.ofVRd hr (by simpa using hv)), ?_, by simp [Ty.size]; omega⟩
      have := congrArg (List.drop 1) p2
      simpa [List.drop_drop, Ty.size, Nat.add_comm] using this
    · rename_i y r1 h1
      obtain ⟨p1, p2, p3⟩ := decP_RD t cs y _ g h1 hg
      have hlen : t.size < cs.length := by have := congrArg List.length p2; simp at this; omega
      simp at h
      obtain ⟨rfl, rfl⟩ := h
      have hd : cs[t.size]? = some .nils := by
        have := congrArg (·[0]?) p2
        simpa [List.getElem?_drop] using this.symm
      obtain ⟨v, hv, hr⟩ := hg _ _ hd
      cases hr
      refine ⟨.rose p1 (.nil (by simpa using hv)), ?_, by simp [Ty.size]; omega⟩
      have := congrArg (List.drop 1) p2
      simpa [List.drop_drop, Ty.size, Nat.add_comm] using this
    · cases h

end Go.Ev
namespace Go.Ev
set_option linter.unusedVariables false
set_option linter.unusedSimpArgs false
set_option linter.unusedSectionVars false

class Ctx where
  tag : Ty → TypeId → Prop
  tab : Blocks
  inv : World → Prop
  stays : ∀ w w' : World, (∀ c, tab c → w'.heap[c]? = w.heap[c]?) → inv w → inv w'

variable [Ctx]

inductive AV where
  | top
  | d (x : D)
  | sr (b off len sz : Nat) (cap : Option Nat)
  | ptr (b off : Nat)
  | eptr (b i sz off : Nat)
  | cptr (cs : List D) (off : Nat)
  | agg (cs : List AV)
  | tup (vs : List AV)
  | fn (f : FuncId) (caps : List AV)
  | snil (b : Nat) (T : TypeId)
  | ifc (T : TypeId)
  | mp (b : Nat)

inductive Box where
  | dead
  | cells (l : List AV)
  | arr (t : Ty) (l : List t.den) (live : Bool)
  | keys (t : Ty) (l : List t.den)

def Box.live : Box → Bool
  | .dead => false
  | .cells _ => true
  | .arr _ _ m => m
  | .keys _ _ => true

abbrev Map := Nat → Option Nat

def srOK (β : Map) (N : Nat → Prop) (w : World) (b off len sz : Nat) (cap : Option Nat) (v : Value) : Prop :=
  N b ∧ 0 < sz ∧ ((β b = none ∧ v = .slice none 0 0 ∧ off = 0 ∧ len = 0 ∧ cap = none) ∨
    ∃ c k, β b = some c ∧ v = .slice (some ⟨c, off * sz, none⟩) len k ∧ len ≤ k ∧ (∀ k', cap = some k' → k = k') ∧ ∃ arr e fz, w.heap[c]? = some (.cells arr e fz) ∧ (off + k) * sz ≤ arr.size)

def cpOK (X : Blocks) (w : World) (cs : List D) (off : Nat) (v : Value) : Prop :=
  ∃ c base, c < w.heap.size ∧ ¬ X c ∧ v = .pointer (some ⟨c, base + off, none⟩) ∧ ∀ j d, cs[j]? = some d → ∃ u, w.cell? ⟨c, base + j, none⟩ = some u ∧ VRd X w d u

mutual
def VR (X : Blocks) (β : Map) (N : Nat → Prop) (w : World) : AV → Value → Prop
  | .top, _ => True
  | .d x, v => VRd X w x v
  | .sr b off len sz cap, v => srOK β N w b off len sz cap v
  | .ptr b off, v => N b ∧ ∃ c, β b = some c ∧ v = .pointer (some ⟨c, off, none⟩)
  | .eptr b i sz off, v => N b ∧ ∃ c, β b = some c ∧ v = .pointer (some ⟨c, i * sz + off, none⟩)
  | .cptr cs off, v => cpOK X w cs off v
  | .agg cs, v => ∃ vs, v = .agg vs ∧ VRs X β N w cs vs.toList
  | .tup cs, v => ∃ vs, v = .tuple vs ∧ VRs X β N w cs vs.toList
  | .fn f cs, v => ∃ vs, v = .func (.func f) #[] vs ∧ VRs X β N w cs vs.toList
  | .snil b T, v => N b ∧ v = .pointer none ∧ ∃ c arr fz, β b = some c ∧ w.heap[c]? = some (.cells arr T fz)
  | .ifc T, v => ∃ u, v = .iface T u
  | .mp b, v => N b ∧ ∃ c, β b = some c ∧ v = .map (some c)
def VRs (X : Blocks) (β : Map) (N : Nat → Prop) (w : World) : List AV → List Value → Prop
  | [], [] => True
  | a :: as, v :: vs => VR X β N w a v ∧ VRs X β N w as vs
  | _, _ => False
end

structure Mv (X : Blocks) (β : Map) (N : Nat → Prop) (w : World) (X' : Blocks) (β' : Map) (N' : Nat → Prop) (w' : World) : Prop where
  size : w.heap.size ≤ w'.heap.size
  keep : ∀ c : Nat, c < w.heap.size → ¬ X c → ¬ X' c ∧ w'.heap[c]? = w.heap[c]?
  shape : ∀ (c : Nat) (arr : Array Value) (e : TypeId) (fz : Nat × Nat), w.heap[c]? = some (Obj.cells arr e fz) → ∃ (arr' : Array Value) (fz' : Nat × Nat), w'.heap[c]? = some (Obj.cells arr' e fz') ∧ arr'.size = arr.size
  more : ∀ b, N b → N' b
  same : ∀ b, N b → β' b = β b

theorem srOK.move {X : Blocks} {β : Map} {N : Nat → Prop} {w : World} {X' : Blocks} {β' : Map} {N' : Nat → Prop} {w' : World} (m : Mv X β N w X' β' N' w')
    {b off len sz : Nat} {cap : Option Nat} {v : Value} (h : srOK β N w b off len sz cap v) : srOK β' N' w' b off len sz cap v := by
  obtain ⟨hb, hs, h⟩ := h
  refine ⟨m.more b hb, hs, ?_⟩
  rw [m.same b hb]
  rcases h with h | ⟨c, k, h1, h2, h3, h4, arr, e, fz, h5, h6⟩
  · exact .inl h
  · obtain ⟨arr', fz', h7, h8⟩ := m.shape c arr e _ h5
    exact .inr ⟨c, k, h1, h2, h3, h4, arr', e, fz', h7, by rw [h8]; exact h6⟩

theorem cpOK.move {X : Blocks} {w : World} {X' : Blocks} {w' : World} (hz : w.heap.size ≤ w'.heap.size) (hf : ∀ c, c < w.heap.size → ¬ X c → ¬ X' c ∧ w'.heap[c]? = w.heap[c]?)
    {cs : List D} {off : Nat} {v : Value} (h : cpOK X w cs off v) : cpOK X' w' cs off v := by
  obtain ⟨c, base, hlt, hx, hv, hc⟩ := h
  refine ⟨c, base, Nat.lt_of_lt_of_le hlt hz, (hf c hlt hx).1, hv, fun j d hd => ?_⟩
  obtain ⟨u, hu, hr⟩ := hc j d hd
  exact ⟨u, by rw [cell_of_block (hf c hlt hx).2]; exact hu, hr.move hz hf⟩

mutual
theorem VR.move' {X : Blocks} {β : Map} {N : Nat → Prop} {w : World} {X' : Blocks} {β' : Map} {N' : Nat → Prop} {w' : World} (m : Mv X β N w X' β' N' w') :
    ∀ (a : AV) (v : Value), VR X β N w a v → VR X' β' N' w' a v
  | .top, _, _ => by unfold VR; trivial
  | .d x, v, h => by unfold VR at h ⊢; exact h.move m.size m.keep
  | .sr b off len sz cap, v, h => by unfold VR at h ⊢; exact h.move m
  | .ptr b off, v, h => by
    unfold VR at h ⊢
    obtain ⟨hb, c, h1, h2⟩ := h
    exact ⟨m.more b hb, c, by rw [m.same b hb]; exact h1, h2⟩
  | .eptr b i sz off, v, h => by
    unfold VR at h ⊢
    obtain ⟨hb, c, h1, h2⟩ := h
    exact ⟨m.more b hb, c, by rw [m.same b hb]; exact h1, h2⟩
  | .cptr cs off, v, h => by unfold VR at h ⊢; exact h.move m.size m.keep
  | .agg cs, v, h => by
    unfold VR at h ⊢
    obtain ⟨vs, h1, h2⟩ := h
    exact ⟨vs, h1, VRs.move m cs _ h2⟩
  | .tup cs, v, h => by
    unfold VR at h ⊢
    obtain ⟨vs, h1, h2⟩ := h
    exact ⟨vs, h1, VRs.move m cs _ h2⟩
  | .fn f cs, v, h => by
    unfold VR at h ⊢
    obtain ⟨vs, h1, h2⟩ := h
    exact ⟨vs, h1, VRs.move m cs _ h2⟩
  | .snil b T, v, h => by
    unfold VR at h ⊢
    obtain ⟨hb, hv, c, arr, fz, h1, h2⟩ := h
    obtain ⟨arr', fz', h3, _⟩ := m.shape c arr T fz h2
    exact ⟨m.more b hb, hv, c, arr', fz', by rw [m.same b hb]; exact h1, h3⟩
  | .ifc T, v, h => by unfold VR at h ⊢; exact h
  | .mp b, v, h => by
    unfold VR at h ⊢
    obtain ⟨hb, c, h1, h2⟩ := h
    exact ⟨m.more b hb, c, by rw [m.same b hb]; exact h1, h2⟩
theorem VRs.move {X : Blocks} {β : Map} {N : Nat → Prop} {w : World} {X' : Blocks} {β' : Map} {N' : Nat → Prop} {w' : World} (m : Mv X β N w X' β' N' w') :
    ∀ (as : List AV) (vs : List Value), VRs X β N w as vs → VRs X' β' N' w' as vs
  | [], [], _ => by unfold VRs; trivial
  | [], _ :: _, h => by unfold VRs at h; exact h.elim
  | _ :: _, [], h => by unfold VRs at h; exact h.elim
  | a :: as, v :: vs, h => by
    unfold VRs at h ⊢
    exact ⟨VR.move' m a v h.1, VRs.move m as vs h.2⟩
end

theorem VR.move {X : Blocks} {β : Map} {N : Nat → Prop} {w : World} {X' : Blocks} {β' : Map} {N' : Nat → Prop} {w' : World} {a : AV} {v : Value} (h : VR X β N w a v) (m : Mv X β N w X' β' N' w') :
    VR X' β' N' w' a v := VR.move' m a v h

theorem VRs.len {X : Blocks} {β : Map} {N : Nat → Prop} {w : World} : ∀ (as : List AV) (vs : List Value), VRs X β N w as vs → as.length = vs.length
  | [], [], _ => rfl
  | [], _ :: _, h => by unfold VRs at h; exact h.elim
  | _ :: _, [], h => by unfold VRs at h; exact h.elim
  | a :: as, v :: vs, h => by unfold VRs at h; simp [VRs.len as vs h.2]

theorem VRs.get {X : Blocks} {β : Map} {N : Nat → Prop} {w : World} : ∀ (as : List AV) (vs : List Value), VRs X β N w as vs → ∀ (j : Nat) (a : AV) (v : Value), as[j]? = some a → vs[j]? = some v → VR X β N w a v
  | [], [], _ => fun j a v h _ => by simp at h
  | [], _ :: _, h => by unfold VRs at h; exact h.elim
  | _ :: _, [], h => by unfold VRs at h; exact h.elim
  | a :: as, v :: vs, h => by
    unfold VRs at h
    intro j a' v' ha hv
    cases j with
    | zero => simp at ha hv; subst ha; subst hv; exact h.1
    | succ j => exact VRs.get as vs h.2 j a' v' (by simpa using ha) (by simpa using hv)

theorem VRs.mk {X : Blocks} {β : Map} {N : Nat → Prop} {w : World} : ∀ (as : List AV) (vs : List Value), as.length = vs.length → (∀ (j : Nat) (a : AV) (v : Value), as[j]? = some a → vs[j]? = some v → VR X β N w a v) → VRs X β N w as vs
  | [], [], _, _ => by unfold VRs; trivial
  | [], _ :: _, h, _ => by simp at h
  | _ :: _, [], h, _ => by simp at h
  | a :: as, v :: vs, h, g => by
    unfold VRs
    exact ⟨g 0 a v rfl rfl, VRs.mk as vs (by simpa using h) fun j a' v' ha hv => g (j + 1) a' v' (by simpa using ha) (by simpa using hv)⟩

abbrev Looks := Nat → Box

def Own (β : Map) (L : Looks) : Blocks := fun c => ∃ b, (L b).live = true ∧ β b = some c

def All (X : Blocks) (β : Map) (L : Looks) : Blocks := fun c => X c ∨ Own β L c

def BoxR (X : Blocks) (β : Map) (N : Nat → Prop) (w : World) (b : Nat) : Box → Prop
  | .dead => True
  | .cells l => ∃ (c : Nat) (arr : Array Value) (e : TypeId), β b = some c ∧ w.heap[c]? = some (.cells arr e (0, 0)) ∧ arr.size = l.length ∧
      ∀ (j : Nat) (a : AV) (v : Value), l[j]? = some a → arr[j]? = some v → VR X β N w a v ∧ v.oneCell' = true
  | .arr t l m => 0 < t.size ∧ ((β b = none ∧ l = []) ∨
      ∃ (c : Nat) (arr : Array Value) (e : TypeId), β b = some c ∧ w.heap[c]? = some (.cells arr e (0, 0)) ∧ l.length * t.size ≤ arr.size ∧ ((m = false → ¬ X c) ∧ Ctx.tag t e) ∧
        ∀ i (hi : i < l.length), RD X w t l[i] (fun j => arr[i * t.size + j]?))
  | .keys t l => ∃ (c : Nat) (es : Array MapEntry) (k : Nat), β b = some c ∧ w.heap[c]? = some (.map es k) ∧ (t = .str ∨ ∃ i, t = .int i) ∧ es.size = l.length ∧
      ∀ i (hi : i < l.length), ∃ e, es[i]? = some e ∧ e.val = .bool true ∧ RD X w t l[i] (fun _ => some e.key)

structure SimB (X : Blocks) (β : Map) (N : Nat → Prop) (w : World) (L : Looks) : Prop where
  apart : ∀ c, Own β L c → ¬ X c
  inj : ∀ b b' c, (L b).live = true → (L b').live = true → β b = some c → β b' = some c → b = b'
  box : ∀ b, BoxR (All X β L) β N w b (L b)
  dom : ∀ b, L b ≠ .dead → N b
  old : ∀ c, X c → c < w.heap.size
  tabs : Ctx.inv w ∧ ∀ c, Ctx.tab c → c < w.heap.size ∧ ¬ Own β L c

theorem SimB.tabs' {X : Blocks} {β β' : Map} {N : Nat → Prop} {w w' : World} {L L' : Looks} (h : SimB X β N w L) (hf : Fr (Own β L) w (Own β' L') w') : Ctx.inv w' ∧ ∀ c, Ctx.tab c → c < w'.heap.size ∧ ¬ Own β' L' c :=
  ⟨Ctx.stays w w' (fun c hc => (hf.blk c (h.tabs.2 c hc).1 (h.tabs.2 c hc).2).2) h.tabs.1, fun c hc => ⟨Nat.lt_of_lt_of_le (h.tabs.2 c hc).1 hf.size, (hf.blk c (h.tabs.2 c hc).1 (h.tabs.2 c hc).2).1⟩⟩

theorem BoxR.move {X : Blocks} {β : Map} {N : Nat → Prop} {w : World} {X' : Blocks} {β' : Map} {N' : Nat → Prop} {w' : World} (m : Mv X β N w X' β' N' w')
    {b : Nat} {x : Box} (h : BoxR X β N w b x) (hb : N b) (hl : ∀ c, β b = some c → x ≠ .dead → w'.heap[c]? = w.heap[c]?) : BoxR X' β' N' w' b x := by
  cases x with
  | dead => trivial
  | cells l =>
    obtain ⟨c, arr, e, h1, h2, h3, h4⟩ := h
    exact ⟨c, arr, e, by rw [m.same b hb]; exact h1, by rw [hl c h1 (by simp)]; exact h2, h3, fun j a v ha hv => ⟨(h4 j a v ha hv).1.move m, (h4 j a v ha hv).2⟩⟩
  | arr t l q =>
    obtain ⟨h0, h⟩ := h
    refine ⟨h0, ?_⟩
    rcases h with h | ⟨c, arr, e, h1, h2, h3, h4, h5⟩
    · exact .inl (by rw [m.same b hb]; exact h)
    · exact .inr ⟨c, arr, e, by rw [m.same b hb]; exact h1, by rw [hl c h1 (by simp)]; exact h2, h3, ⟨fun hq => (m.keep c (heap_lt h2) (h4.1 hq)).1, h4.2⟩, fun i hi => (h5 i hi).move m.size m.keep _ fun _ _ _ e => e⟩
  | keys t l =>
    obtain ⟨c, es, k, h1, h2, h3, h4, h5⟩ := h
    refine ⟨c, es, k, by rw [m.same b hb]; exact h1, by rw [hl c h1 (by simp)]; exact h2, h3, h4, fun i hi => ?_⟩
    obtain ⟨e, a1, a2, a3⟩ := h5 i hi
    exact ⟨e, a1, a2, a3.move m.size m.keep _ fun _ _ _ e => e⟩

end Go.Ev
namespace Go.Ev
set_option linter.unusedVariables false
set_option linter.unusedSimpArgs false
set_option linter.unusedSectionVars false

inductive M (α : Type) where
  | ret (a : α)
  | fail
  | br (b : Bool) (k : Bool → M α)

def M.bind {α β : Type} : M α → (α → M β) → M β
  | .ret a, f => f a
  | .fail, _ => .fail
  | .br b k, f => .br b fun p => (k p).bind f

def M.run {α : Type} : M α → Option α
  | .ret a => some a
  | .fail => none
  | .br b k => (k b).run

def M.chk {α : Type} (b : Bool) (m : M α) : M α := .br b fun p => cond p m .fail
def M.ifb {α : Type} (b : Bool) (m : M α) : M α := cond b m .fail

theorem M.run_bind {α β : Type} (m : M α) (f : α → M β) : (m.bind f).run = m.run.bind fun a => (f a).run := by
  induction m with
  | ret a => rfl
  | fail => rfl
  | br b k ih => simp only [M.bind, M.run]; exact ih b

theorem M.run_chk {α : Type} (b : Bool) (m : M α) (a : α) : (M.chk b m).run = some a ↔ b = true ∧ m.run = some a := by
  cases b <;> simp [M.chk, M.run]

theorem M.run_ifb {α : Type} (b : Bool) (m : M α) (a : α) : (M.ifb b m).run = some a ↔ b = true ∧ m.run = some a := by
  cases b <;> simp [M.ifb, M.run]

def M.path {α : Type} : List Bool → M α → Option (α × List Bool)
  | _, .ret a => some (a, [])
  | _, .fail => none
  | [], .br _ _ => none
  | p :: ps, .br b k => match M.path ps (k p) with
    | none => none
    | some (a, cs) => some (a, (b == p) :: cs)

theorem M.run_of_path {α : Type} : ∀ (m : M α) (ps : List Bool) (a : α) (cs : List Bool), m.path ps = some (a, cs) → cs.all id = true → m.run = some a
  | .ret a, ps, b, cs, h, _ => by cases ps <;> · simp [M.path] at h; simp [M.run, h.1]
  | .fail, ps, b, cs, h, _ => by cases ps <;> simp [M.path] at h
  | .br b k, [], a, cs, h, _ => by simp [M.path] at h
  | .br b k, p :: ps, a, cs, h, hc => by
    simp only [M.path] at h
    cases hp : M.path ps (k p) with
    | none => rw [hp] at h; cases h
    | some x =>
      rw [hp] at h
      obtain ⟨x1, x2⟩ := x
      simp at h
      obtain ⟨rfl, rfl⟩ := h
      simp at hc
      have := M.run_of_path (k p) ps _ _ hp (by simpa using hc.2)
      simp only [M.run]
      rw [hc.1]
      exact this

inductive AArg where
  | tmp (i : Nat)
  | val (v : AV)

inductive AOp where
  | mv | pick
  | box (n : Nat)
  | alloc (zs : List AV)
  | nilArr (t : Ty)
  | build (zs : List AV) (ps : List (Nat × Nat))
  | lit (t : Ty) (n : Nat) (ix : List Nat)
  | load (agg : Bool) (n : Nat)
  | store (n : Nat)
  | chk
  | bin (op : BinOp)
  | un (op : UnOp)
  | toInt (k : IntKind)
  | idstr
  | fld (off : Nat)
  | get (agg : Bool) (off n : Nat)
  | elm (sz : Nat)
  | chr
  | cut (ot : Option Ty) (sz : Nat) (lo hi mx : Bool)
  | ext (i : Nat)
  | len (str : Bool)
  | app (t : Ty) (bytes : Nat)
  | cpy (n : Nat)
  | mini | maxi
  | mk (t : Ty) (bytes : Nat)
  | clo (f : FuncId)
  | call (f : FuncId)
  | callv
  | clr (t : Ty)
  | eqs (neg : Bool) (ks : List Nat)
  | eqb (neg : Bool)
  | isnil (neg : Bool) (k : Nat)
  | prim (g : List D → M D)
  | s2b | b2s
  /-- A variable of a type that holds a pointer at itself, first. -/
  | allocT (T : TypeId) (zs : List AV)
  /-- SliceData, String of the package of raw memory. -/
  | sdata | ustr
  | isnili (neg : Bool)
  | capv
  /-- append of so many zeros. -/
  | appz (t : Ty) (bytes : Nat)
  /-- slices.overlaps. -/
  | ovl
  /-- A map of which all values are true: made, told of a key, asked for one. -/
  | mkm (t : Ty)
  | mset (t : Ty)
  | mget (t : Ty)
  | mlen
  /-- What the evaluator does not take. -/
  | bad

structure AOper where
  dst : Option Nat
  guard : Option (Nat × Bool)
  op : AOp
  args : List AArg

inductive AC where
  | skip
  | region (ops : List AOper) (after : Option (List (List Nat)))
  | seq (a b : AC)
  | cnd (c : AArg) (a b : AC)
  | block (id : Nat) (b : AC)
  | loop (keep : Nat) (b : AC)
  | exit (id : Nat)
  | ret
  | bad

inductive AEx where
  | normal | exit (id : Nat) | ret

abbrev Env := List AV
abbrev Boxes := List Box

def look (B : Boxes) (b : Nat) : Box := B.getD b .dead

def rdA (env : Env) : AArg → AV
  | .tmp i => env.getD i .top
  | .val v => v

structure Res where
  val : AV
  reads : List Nat
  writes : List (Nat × Box)

def AV.isCell : AV → Bool
  | .d _ | .sr .. | .ptr .. | .eptr .. | .cptr .. | .fn .. | .snil .. | .ifc _ | .mp _ => true
  | .top | .agg _ | .tup _ => false

def AV.cells : AV → List AV
  | .agg cs => cs
  | v => [v]

def cellsAt (B : Boxes) (p : AV) (n : Nat) : M (List AV × List Nat) :=
  match p with
  | .ptr b off => match look B b with
    | .cells l => .ifb (Nat.ble (off + n) l.length) (.ret ((l.drop off).take n, [b]))
    | _ => .fail
  | .eptr b i sz off => match look B b with
    | .arr t l _ => .ifb (sz == t.size && Nat.ble (off + n) sz) (.chk (decide (i < l.length)) (.ret ((((encC t (l.getD i t.dflt)).map AV.d).drop off).take n, [b])))
    | _ => .fail
  | .cptr cs off => .ifb (Nat.ble (off + n) cs.length) (.ret (((cs.map AV.d).drop off).take n, []))
  | _ => .fail

def toD (B : Boxes) : AV → M (D × List (Nat × Box))
  | .d x => .ret (x, [])
  | .sr b off len sz _ => match look B b with
    | .arr t l _ => .ifb (sz == t.size) (.chk (decide (off + len ≤ l.length)) (.ret (.sl t ((l.drop off).take len), [(b, .arr t l false)])))
    | _ => .fail
  | _ => .fail

def toDs (B : Boxes) : List AV → M (List D × List (Nat × Box))
  | [] => .ret ([], [])
  | a :: as => (toD B a).bind fun (x, ws) => (toDs B as).bind fun (xs, vs) => .ret (x :: xs, ws ++ vs)

def decAll (t : Ty) (cs : List D) : M t.den :=
  match decP t cs with
  | some (x, []) => .ret x
  | _ => .fail

def splice {α : Type} (l : List α) (off : Nat) (xs : List α) : List α := l.take off ++ xs ++ l.drop (off + xs.length)

def aInt (op : BinOp) (k : IntKind) (a b : Int) : M D :=
  match op with
  | .add => .ret (.int k (k.wrap (a + b)))
  | .sub => .ret (.int k (k.wrap (a - b)))
  | .mul => .ret (.int k (k.wrap (a * b)))
  | .quo => .chk (!decide (b = 0)) (.ret (.int k (k.wrap (a.tdiv b))))
  | .rem => .chk (!decide (b = 0)) (.ret (.int k (a.tmod b)))
  | .eql => .ret (.bool (a == b))
  | .neq => .ret (.bool (a != b))
  | .lss => .ret (.bool (decide (a < b)))
  | .leq => .ret (.bool (decide (a ≤ b)))
  | .gtr => .ret (.bool (decide (a > b)))
  | .geq => .ret (.bool (decide (a ≥ b)))
  | .and => .ret (.int k (k.wrap (BitVec.ofInt k.bits a &&& BitVec.ofInt k.bits b).toNat))
  | .or => .ret (.int k (k.wrap (BitVec.ofInt k.bits a ||| BitVec.ofInt k.bits b).toNat))
  | .xor => .ret (.int k (k.wrap (BitVec.ofInt k.bits a ^^^ BitVec.ofInt k.bits b).toNat))
  | .andNot => .ret (.int k (k.wrap (BitVec.ofInt k.bits a &&& ~~~(BitVec.ofInt k.bits b)).toNat))
  | _ => .fail

def aShift (op : BinOp) (k : IntKind) (a b : Int) : M D :=
  match op with
  | .shl => .chk (decide (0 ≤ b)) (.ret (.int k (k.wrap (a * 2 ^ (min b.toNat k.bits)))))
  | .shr => .chk (decide (0 ≤ b)) (.ret (.int k (a.fdiv (2 ^ (min b.toNat k.bits)))))
  | _ => .fail

def aStr (op : BinOp) (a b : List UInt8) : M D :=
  match op with
  | .add => .chk (decide (a.length + b.length ≤ 4611686018427387904)) (.ret (.str (a ++ b)))
  | .eql => .ret (.bool (a == b))
  | .neq => .ret (.bool (!(a == b)))
  | .lss => .ret (.bool (Op.bytesLess a b))
  | .leq => .ret (.bool (Op.bytesLess a b || a == b))
  | .gtr => .ret (.bool (!(Op.bytesLess a b || a == b)))
  | .geq => .ret (.bool (!(Op.bytesLess a b)))
  | _ => .fail

def isNil (k : Nat) : AV → M Bool
  | .d .nils => .ifb (k == 0) (.ret true)
  | .d .nilp => .ifb (k == 1) (.ret true)
  | .d .nilf => .ifb (k == 2) (.ret true)
  | .d (.sl _ l) => .ifb (k == 0) (.chk (!l.isEmpty) (.ret false))
  | .ptr .. | .eptr .. | .cptr .. => .ifb (k == 1) (.ret false)
  | .snil .. => .ifb (k == 1) (.ret true)
  | .fn .. => .ifb (k == 2) (.ret false)
  | .sr _ _ len _ _ => .ifb (k == 0) (.chk (!decide (len = 0)) (.ret false))
  | _ => .fail

def aBin (op : BinOp) (x y : AV) : M AV :=
  match x, y with
  | .d (.int k a), .d (.int k' b) =>
    match op with
    | .shl | .shr => (aShift op k a b).bind fun r => .ret (.d r)
    | _ => .ifb (decide (k = k')) ((aInt op k a b).bind fun r => .ret (.d r))
  | .d (.str a), .d (.str b) => (aStr op a b).bind fun r => .ret (.d r)
  | _, _ => .fail

def aUn (op : UnOp) (x : AV) : M AV :=
  match op, x with
  | .neg, .d (.int k n) => .ret (.d (.int k (k.wrap (0 - n))))
  | .xor, .d (.int k n) => .ret (.d (.int k (k.wrap (BitVec.ofInt k.bits (if k.signed then -1 else k.max) ^^^ BitVec.ofInt k.bits n).toNat)))
  | .not, .d (.bool b) => .ret (.d (.bool (!b)))
  | _, _ => .fail

def asI : AV → M Int
  | .d (.int _ n) => .ret n
  | _ => .fail

def content (B : Boxes) (t : Ty) : AV → M (List t.den × List Nat)
  | .d .nils => .ret ([], [])
  | .d (.sl t' l) => if h : t' = t then .ret (h ▸ l, []) else .fail
  | .d (.str s) => if h : t = .int .u8 then .ret (h ▸ (s.map fun c => ((c.toNat : Nat) : Int) : List Int), []) else .fail
  | .sr b off len sz _ => match look B b with
    | .arr t' l _ => if h : t' = t then .ifb (sz == t.size) (.chk (decide (off + len ≤ l.length)) (.ret (h ▸ ((l.drop off).take len), [b]))) else .fail
    | _ => .fail
  | _ => .fail

def headOf (B : Boxes) (t : Ty) (a : AV) : M (Nat × List t.den × List Nat) :=
  match a with
  | .sr b off len sz cap => match look B b with
    | .arr _ l _ => (content B t (.sr b off (min len (l.length - off)) sz cap)).bind fun (ys, rs) => .ret (len, ys, rs)
    | _ => .fail
  | a => (content B t a).bind fun (ys, rs) => .ret (ys.length, ys, rs)

def bound (x : Option Int) (dflt : Nat) (top : Nat) : M Nat :=
  match x with
  | none => .ret dflt
  | some i => .chk (decide (0 ≤ i) && decide (i ≤ (top : Int))) (.ret i.toNat)

def optI (b : Bool) (xs : List AV) : M (Option Int × List AV) :=
  match b, xs with
  | false, xs => .ret (none, xs)
  | true, .d (.int _ n) :: xs => .ret (some n, xs)
  | true, _ => .fail

def emptyCut : Option Ty → Option Nat → AV
  | some t, none => .d (.sl t [])
  | _, _ => .top

def aCut (ot : Option Ty) (sz : Nat) (x : AV) (lo hi mx : Option Int) : M AV :=
  match x with
  | .d (.str s) => match mx with
    | some _ => .fail
    | none => .ifb (sz == 0) ((bound hi s.length s.length).bind fun h => (bound lo 0 h).bind fun l => .ret (.d (.str ((s.take h).drop l))))
  | .d .nils => match mx with
    | some _ => .fail
    | none => .ifb (!(sz == 0)) ((bound hi 0 0).bind fun h => (bound lo 0 h).bind fun l => .ret (.d .nils))
  | .d (.sl t xs) => match mx with
    | some _ => .fail
    | none => .ifb (t.size == sz && !(sz == 0)) ((bound hi xs.length xs.length).bind fun h => (bound lo 0 h).bind fun l => .ret (.d (.sl t ((xs.take h).drop l))))
  | .sr b off len sz' cap => match mx with
      | some _ => .fail
      | none => .ifb (sz' == sz && !(sz == 0)) ((bound hi len (cap.getD len)).bind fun h => (bound lo 0 h).bind fun l =>
        .br (decide (l < len) || decide (l = 0)) fun p => cond p (.ret (.sr b (off + l) (h - l) sz (cap.map (· - l)))) (.ret (emptyCut ot cap)))
  | _ => .fail

def min2 : AV → AV → M AV
  | .d (.int k x), .d (.int _ y) => .ret (.d (.int k (if y < x then y else x)))
  | _, _ => .fail

def max2 : AV → AV → M AV
  | .d (.int k x), .d (.int _ y) => .ret (.d (.int k (if x < y then y else x)))
  | _, _ => .fail

def foldM (f : AV → AV → M AV) : AV → List AV → M AV
  | a, [] => .ret a
  | a, b :: r => (f a b).bind fun x => foldM f x r

def eqD : Nat → AV → AV → Option Bool
  | 0, .d (.int k a), .d (.int k' b) => if k = k' then some (a == b) else none
  | 1, .d (.bool a), .d (.bool b) => some (a == b)
  | 2, .d (.str a), .d (.str b) => some (a == b)
  | _, _, _ => none

def eqCells : List Nat → List AV → List AV → M Bool
  | [], [], [] => .ret true
  | k :: ks, a :: as, b :: bs => match eqD k a b with
    | some e => (eqCells ks as bs).bind fun r => .ret (e && r)
    | none => .fail
  | _, _, _ => .fail

def AV.refs : AV → List Nat
  | .sr b _ _ _ _ => [b]
  | .ptr b _ => [b]
  | .eptr b _ _ _ => [b]
  | .snil b _ => [b]
  | .mp b => [b]
  | .agg cs => refsL cs
  | .tup cs => refsL cs
  | .fn _ cs => refsL cs
  | .top | .d _ | .cptr _ _ | .ifc _ => []
where
  refsL : List AV → List Nat
  | [] => []
  | a :: as => a.refs ++ refsL as

def Box.refs : Box → List Nat
  | .cells l => AV.refs.refsL l
  | _ => []

mutual
def AV.ren (f : Nat → Option Nat) : AV → Option AV
  | .top => some .top
  | .d x => some (.d x)
  | .sr b off len sz cap => match f b with | some b' => some (.sr b' off len sz cap) | none => none
  | .ptr b off => match f b with | some b' => some (.ptr b' off) | none => none
  | .eptr b i sz off => match f b with | some b' => some (.eptr b' i sz off) | none => none
  | .cptr cs off => some (.cptr cs off)
  | .ifc T => some (.ifc T)
  | .snil b T => match f b with | some b' => some (.snil b' T) | none => none
  | .mp b => match f b with | some b' => some (.mp b') | none => none
  | .agg cs => match AV.renL f cs with | some cs' => some (.agg cs') | none => none
  | .tup cs => match AV.renL f cs with | some cs' => some (.tup cs') | none => none
  | .fn g cs => match AV.renL f cs with | some cs' => some (.fn g cs') | none => none
def AV.renL (f : Nat → Option Nat) : List AV → Option (List AV)
  | [] => some []
  | a :: as => match AV.ren f a with
    | none => none
    | some a' => match AV.renL f as with
      | none => none
      | some as' => some (a' :: as')
end

def Box.ren (f : Nat → Option Nat) : Box → Option Box
  | .dead => some .dead
  | .cells l => match AV.renL f l with | some l' => some (.cells l') | none => none
  | .arr t l m => some (.arr t l m)
  | .keys t l => some (.keys t l)

def renBoxes (f : Nat → Option Nat) : List Box → Option (List Box)
  | [] => some []
  | x :: xs => match x.ren f with
    | none => none
    | some x' => match renBoxes f xs with
      | none => none
      | some xs' => some (x' :: xs')

def reachGo (B : Boxes) : Nat → List Nat → List Nat → List Nat
  | 0, done, _ => done
  | _ + 1, done, [] => done
  | n + 1, done, b :: todo => if done.contains b then reachGo B n done todo else reachGo B n (done ++ [b]) (todo ++ (look B b).refs)

def idxIn (l : List Nat) (b : Nat) : Option Nat := l.idxOf? b

def nodupB : List Nat → Bool
  | [] => true
  | x :: xs => !xs.contains x && nodupB xs

def pickBoxes (B : Boxes) (rs : List Nat) : M (List Box) :=
  .ifb (nodupB rs && rs.all fun b => Nat.blt b B.length)
    (match renBoxes (idxIn rs) (rs.map (look B)) with
     | some B' => .ret B'
     | none => .fail)

def optM {α : Type} : Option α → M α
  | some a => .ret a
  | none => .fail

def litCap (n : Nat) : Option Nat := if n = 0 then none else some n

def AV.isStr : AV → Bool
  | .d (.str _) => true
  | _ => false

def asDs : List AV → Option (List D)
  | [] => some []
  | .d x :: as => match asDs as with
    | some ds => some (x :: ds)
    | none => none
  | _ => none

def D.flat : D → Bool
  | .sl _ _ => false
  | _ => true

def AV.flat : AV → Bool
  | .d x => x.flat
  | .sr .. | .ptr .. | .eptr .. | .snil .. | .ifc _ | .mp _ => true
  | .cptr .. | .top => false
  | .agg cs => flatL cs
  | .tup cs => flatL cs
  | .fn _ cs => flatL cs
where
  flatL : List AV → Bool
  | [] => true
  | a :: as => a.flat && flatL as

def Box.flat : Box → Bool
  | .dead => true
  | .cells l => AV.flat.flatL l
  | .arr t _ live => t.flat && live
  | .keys _ _ => true

mutual
def snap (B : Boxes) : AV → M (AV × List (Nat × Box))
  | .sr b off len sz cap => (toD B (.sr b off len sz cap)).bind fun (x, ws) => .ret (.d x, ws)
  | .agg cs => (snapL B cs).bind fun (cs', ws) => .ret (.agg cs', ws)
  | .tup cs => (snapL B cs).bind fun (cs', ws) => .ret (.tup cs', ws)
  | .fn g cs => (snapL B cs).bind fun (cs', ws) => .ret (.fn g cs', ws)
  | a => .ret (a, [])
def snapL (B : Boxes) : List AV → M (List AV × List (Nat × Box))
  | [] => .ret ([], [])
  | a :: as => (snap B a).bind fun (a', ws) => (snapL B as).bind fun (as', vs) => .ret (a' :: as', ws ++ vs)
end

def setE (B : Boxes) (i : Nat) (x : Box) : Boxes :=
  if i < B.length then B.set i x else B ++ List.replicate (i - B.length) .dead ++ [x]

def upd (B : Boxes) (ws : List (Nat × Box)) : Boxes := ws.foldl (fun B (i, x) => setE B i x) B

def room : Nat := 4

abbrev Caller := FuncId → List AV → Boxes → M (AV × Boxes)

def setDs : List D → Nat → List D → List D := fun l off xs => splice l off xs

def litRow (t : Ty) : List Nat → List (List D) → List t.den → M (List t.den)
  | [], [], l => .ret l
  | i :: is, c :: cs, l => (decAll t c).bind fun x => litRow t is cs (l.set i x)
  | _, _, _ => .fail

def cellsD (B : Boxes) : List AV → M (List (List D) × List (Nat × Box))
  | [] => .ret ([], [])
  | a :: as => (toDs B a.cells).bind fun (x, ws) => (cellsD B as).bind fun (xs, vs) => .ret (x :: xs, ws ++ vs)

def buildGo : List AV → List (Nat × Nat) → List AV → M (List AV)
  | zs, [], [] => .ret zs
  | zs, (off, n) :: ps, a :: as => .ifb (a.cells.length == n && Nat.ble (off + n) zs.length && a.cells.all AV.isCell) (buildGo (splice zs off a.cells) ps as)
  | _, _, _ => .fail

def Box.isDead : Box → Bool
  | .dead => true
  | _ => false

def evCallOp (byref : FuncId → Bool) (call : Caller) (f : FuncId) (args : List AV) (B : Boxes) (al : Nat) : M Res :=
  (if byref f then M.ret (args, []) else snapL B args).bind fun (as, ws) =>
  let rs := reachGo B 1000 [] (AV.refs.refsL as)
  (optM (AV.renL (idxIn rs) as)).bind fun as' =>
  (pickBoxes B rs).bind fun sub =>
  .ifb (rs.all fun b => !(ws.map (·.1)).contains b)
  ((call f as' sub).bind fun (r, B1) =>
    let ks := rs ++ (List.range (B1.length - rs.length)).map fun j => al + j
    .ifb (Nat.ble rs.length B1.length && Nat.ble B1.length (rs.length + room) && (rs.all fun b => Nat.blt b al) && (rs.all fun b => !(look B b).isDead) && ((B1.drop rs.length).all fun x => !x.isDead))
    ((optM (AV.ren (fun i => ks[i]?) r)).bind fun r' =>
     (optM (renBoxes (fun i => ks[i]?) B1)).bind fun B1' =>
     let close := if r.flat && B1.all Box.flat then [] else ws
     .ret ⟨r', rs ++ ws.map (·.1), close ++ ks.zip B1'⟩))

def Ty.isKey : Ty → Bool
  | .str => true
  | .int _ => true
  | _ => false
def keyEq : (t : Ty) → t.den → t.den → Bool
  | .str, a, b => (show List UInt8 from a) == b
  | .int _, a, b => (show Int from a) == b
  | _, _, _ => false
def hasKey (t : Ty) (l : List t.den) (x : t.den) : Bool := l.any fun y => keyEq t x y
def addKey (t : Ty) (l : List t.den) (x : t.den) : List t.den := if hasKey t l x then l else l ++ [x]
def asKey (t : Ty) : AV → M t.den
  | .d (.str s) => if h : t = .str then .ret (h ▸ s) else .fail
  | .d (.int k n) => if h : t = .int k then .ret (h ▸ n) else .fail
  | _ => .fail

def evOp (byref : FuncId → Bool) (call : Caller) (op : AOp) (args : List AV) (B : Boxes) (al : Nat) : M Res :=
  match op, args with
  | .mv, [x] => .ret ⟨x, [], []⟩
  | .pick, [.d (.bool c), a, b] => .br c fun p => .ret ⟨cond p a b, [], []⟩
  | .box n, [x] => .ifb (x.cells.length == n && x.cells.all AV.isCell) (.ret ⟨.ptr al 0, [], [(al, .cells x.cells)]⟩)
  | .alloc zs, [] => .ret ⟨.ptr al 0, [], [(al, .cells zs)]⟩
  | .nilArr t, [] => .ifb (Nat.blt 0 t.size) (.ret ⟨.sr al 0 0 t.size none, [], [(al, .arr t [] true)]⟩)
  | .build zs ps, as => (buildGo zs ps as).bind fun cs => .ret ⟨.agg cs, [], []⟩
  | .lit t n ix, as => .ifb (Nat.blt 0 t.size && ix.all fun i => Nat.blt i n) ((cellsD B as).bind fun (cs, ws) => (litRow t ix cs (List.replicate n t.dflt)).bind fun l =>
      .ret ⟨.sr al 0 n t.size (litCap n), ws.map (·.1), ws ++ [(al, .arr t l true)]⟩)
  | .load agg n, [p] => (cellsAt B p n).bind fun (cs, rs) => match agg, cs with
    | true, cs => .ret ⟨.agg cs, rs, []⟩
    | false, [c] => .ret ⟨c, rs, []⟩
    | false, _ => .fail
  | .store n, [p, v] => .ifb (v.cells.length == n && v.cells.all AV.isCell) (match p with
    | .ptr b off => match look B b with
      | .cells l => .ifb (Nat.ble (off + n) l.length) (.ret ⟨.top, [b], [(b, .cells (splice l off v.cells))]⟩)
      | _ => .fail
    | .eptr b i sz off => match look B b with
      | .arr t l true => .ifb (sz == t.size && Nat.ble (off + n) sz) (.chk (decide (i < l.length)) ((toDs B v.cells).bind fun (cs, ws) =>
          .ifb (!(ws.map (·.1)).contains b) ((decAll t (splice (encC t (l.getD i t.dflt)) off cs)).bind fun x => .ret ⟨.top, b :: ws.map (·.1), ws ++ [(b, .arr t (l.set i x) true)]⟩)))
      | _ => .fail
    | _ => .fail)
  | .chk, [p] => match p with
    | .ptr .. | .eptr .. | .cptr .. | .fn .. => .ret ⟨p, [], []⟩
    | _ => .fail
  | .bin op, [x, y] => (aBin op x y).bind fun r => .ret ⟨r, [], []⟩
  | .un op, [x] => (aUn op x).bind fun r => .ret ⟨r, [], []⟩
  | .toInt k, [.d (.int _ n)] => .ret ⟨.d (.int k (k.wrap n)), [], []⟩
  | .idstr, [x] => match x with
    | .d (.str s) => .ret ⟨.d (.str s), [], []⟩
    | _ => .fail
  | .fld off, [p] => match p with
    | .ptr b o => .ret ⟨.ptr b (o + off), [], []⟩
    | .eptr b i sz o => .ret ⟨.eptr b i sz (o + off), [], []⟩
    | .cptr cs o => .ret ⟨.cptr cs (o + off), [], []⟩
    | _ => .fail
  | .get agg off n, [.agg cs] => .ifb (Nat.ble (off + n) cs.length) (match agg, (cs.drop off).take n with
    | true, xs => .ret ⟨.agg xs, [], []⟩
    | false, [x] => .ret ⟨x, [], []⟩
    | false, _ => .fail)
  | .elm sz, [s, .d (.int _ i)] => match s with
    | .d (.sl t l) => .ifb (t.size == sz) (.chk (decide (0 ≤ i)) (.chk (decide (i < (l.length : Int))) (.ret ⟨.cptr (encC t (l.getD i.toNat t.dflt)) 0, [], []⟩)))
    | .sr b off len sz' _ => .ifb (sz' == sz) (.chk (decide (0 ≤ i)) (.chk (decide (i < (len : Int))) (.ret ⟨.eptr b (off + i.toNat) sz 0, [], []⟩)))
    | _ => .fail
  | .chr, [.d (.str s), .d (.int _ i)] => .chk (decide (0 ≤ i)) (.chk (decide (i < (s.length : Int))) (.ret ⟨.d (.int .u8 ((s.getD i.toNat 0).toNat : Nat)), [], []⟩))
  | .cut ot sz lo hi mx, x :: xs => (optI lo xs).bind fun (l, xs) => (optI hi xs).bind fun (h, xs) => (optI mx xs).bind fun (m, xs) => match xs with
    | [] => (aCut ot sz x l h m).bind fun v => .ret ⟨v, [], []⟩
    | _ => .fail
  | .ext i, [.tup vs] => match vs[i]? with
    | some v => .ret ⟨v, [], []⟩
    | none => .fail
  | .len true, [x] => match x with
    | .d (.str s) => .ret ⟨.d (.int .i64 (s.length : Nat)), [], []⟩
    | _ => .fail
  | .len false, [x] => match x with
    | .d (.sl _ l) => .ret ⟨.d (.int .i64 (l.length : Nat)), [], []⟩
    | .d .nils => .ret ⟨.d (.int .i64 0), [], []⟩
    | .sr _ _ len _ _ => .ret ⟨.d (.int .i64 (len : Nat)), [], []⟩
    | _ => .fail
  | .app t bytes, [x, y] => .ifb (Nat.blt 0 t.size) ((content B t y).bind fun (ys, ry) => match x with
    | .d .nils => .br ys.isEmpty fun p => cond p (.ret ⟨.d .nils, ry, []⟩)
        (.chk (decide (ys.length * bytes ≤ 70368744177664)) (.ret ⟨.sr al 0 ys.length t.size none, ry, [(al, .arr t ys true)]⟩))
    | .sr b off len sz cap => match look B b with
      | .arr t' l live => if h : t' = t then .ifb (sz == t.size) (.chk (decide ((len + ys.length) * bytes ≤ 70368744177664)) (match cap with
        | none => .ifb (live && off == 0) (.chk (decide (len = l.length)) (.ret ⟨.sr al 0 (len + ys.length) t.size none, b :: ry, [(b, .dead), (al, .arr t ((show List t.den from h ▸ l) ++ ys) true)]⟩))
        | some k => .chk (decide (off + len ≤ l.length)) (.br (decide (len + ys.length ≤ k)) fun p => cond p
            (.ifb live (.ret ⟨.sr b off (len + ys.length) t.size cap, b :: ry, [(b, .arr t (splice (show List t.den from h ▸ l) (off + len) ys) true)]⟩))
            (.ret ⟨.sr al 0 (len + ys.length) t.size none, b :: ry, [(al, .arr t (((show List t.den from h ▸ l).drop off).take len ++ ys) true)]⟩)))) else .fail
      | _ => .fail
    | _ => .fail)
  | .cpy n, [x, y] => match x with
    | .sr b off len sz _ => match look B b with
      | .arr t l true => .ifb (sz == t.size && n == t.size && Nat.blt 0 t.size) (.chk (decide (off ≤ l.length)) ((headOf B t y).bind fun (m, ys, ry) =>
          .chk (decide (min m len ≤ ys.length)) (.ret ⟨.d (.int .i64 ((min m len : Nat) : Int)), b :: ry, [(b, .arr t (splice l off (ys.take (min m len))) true)]⟩)))
      | _ => .fail
    | _ => .fail
  | .mini, x :: xs => (foldM min2 x xs).bind fun v => .ret ⟨v, [], []⟩
  | .maxi, x :: xs => (foldM max2 x xs).bind fun v => .ret ⟨v, [], []⟩
  | .eqb ng, [.d (.bool a), .d (.bool b)] => .ret ⟨.d (.bool (cond ng (!(a == b)) (a == b))), [], []⟩
  | .isnil ng k, [x] => (isNil k x).bind fun b => .ret ⟨.d (.bool (cond ng (!b) b)), [], []⟩
  | .eqs ng ks, [.agg xs, .agg ys] => (eqCells ks xs ys).bind fun b => .ret ⟨.d (.bool (cond ng (!b) b)), [], []⟩
  | .mk t bytes, [n, c] => (asI n).bind fun n => (asI c).bind fun c =>
      .ifb (Nat.blt 0 t.size) (.chk (decide (0 ≤ n) && decide (n ≤ c)) (.chk (decide (c * bytes ≤ 70368744177664) && decide (c ≤ 70368744177664)) (.ret ⟨.sr al 0 n.toNat t.size none, [], [(al, .arr t (List.replicate n.toNat t.dflt) true)]⟩)))
  | .clo f, cs => .ret ⟨.fn f cs, [], []⟩
  | .call f, as => evCallOp byref call f as B al
  | .callv, .fn f caps :: as => evCallOp byref call f (as ++ caps) B al
  | .clr ty, [x] => match x with
    | .sr b off len sz _ => match look B b with
      | .arr t l true => if h : t = ty then .ifb (sz == t.size) (.chk (decide (off + len ≤ l.length)) (.ret ⟨.tup [], [b], [(b, .arr t (splice l off (List.replicate len t.dflt)) true)]⟩)) else .fail
      | _ => .fail
    | _ => .fail
  | .prim g, as => (optM (asDs as)).bind fun ds => (g ds).bind fun r => .ret ⟨.d r, [], []⟩
  | .s2b, [x] => match x with
    | .d (.str s) => .ret ⟨.d (.sl (.int .u8) (s.map fun c => ((c.toNat : Nat) : Int))), [], []⟩
    | _ => .fail
  | .b2s, [x] => .ifb (!x.isStr) ((content B (.int .u8) x).bind fun (l, rs) => .ret ⟨.d (.str (l.map fun (n : Int) => UInt8.ofNat n.toNat)), rs, []⟩)
  | .allocT T zs, [] => .ret ⟨.ptr al 0, [], [(al, .cells (.snil al T :: zs.drop 1))]⟩
  | .sdata, [x] => match x with
    | .d .nils => .ret ⟨.d .nilp, [], []⟩
    | .sr b off len 1 _ => .chk (!decide (len = 0)) (.ret ⟨.eptr b off 1 0, [], []⟩)
    | _ => .fail
  | .ustr, [p, .d (.int k n)] => .ifb (decide (k = .i64)) (match p with
    | .d .nilp => .chk (decide (n = 0)) (.ret ⟨.d (.str []), [], []⟩)
    | .eptr b 0 1 0 => match look B b with
      | .arr (.int .u8) l true => .chk (decide (n = (l.length : Nat)) && !l.isEmpty && decide (l.length ≤ 9223372036854775807) && (show List Int from l).all fun n => decide (0 ≤ n) && decide (n < 256)) (.ret ⟨.d (.str (l.map fun (n : Int) => UInt8.ofNat n.toNat)), [b], [(b, .dead)]⟩)
      | _ => .fail
    | _ => .fail)
  | .appz t bytes, [x, .d (.int k n)] => .ifb (decide (k = .i64) && Nat.blt 0 t.size) (match x with
    | .sr b off len sz (some k) => match look B b with
      | .arr t' l _ => if h : t' = t then .ifb (sz == t.size) (.chk (decide (0 ≤ n) && decide ((len + n.toNat) * bytes ≤ 70368744177664) && decide (off + len ≤ l.length) && decide (k < len + n.toNat))
          (.ret ⟨.sr al 0 (len + n.toNat) t.size none, [b], [(al, .arr t (((show List t.den from h ▸ l).drop off).take len ++ List.replicate n.toNat t.dflt) true)]⟩)) else .fail
      | _ => .fail
    | _ => .fail)
  | .capv, [x] => match x with
    | .sr _ _ _ _ (some k) => .ret ⟨.d (.int .i64 (k : Nat)), [], []⟩
    | .d .nils => .ret ⟨.d (.int .i64 0), [], []⟩
    | _ => .fail
  | .ovl, [x, y] => match x, y with
    | .sr b _ la _ _, .sr b' _ lb _ _ => .ifb (!(b == b') && (match look B b with | .arr _ _ true => true | _ => false) && (match look B b' with | .arr _ _ true => true | _ => false)) (.chk (!decide (la = 0) && !decide (lb = 0)) (.ret ⟨.d (.bool false), [b, b'], []⟩))
    | _, _ => .fail
  | .mkm t, [] => .ifb t.isKey (.ret ⟨.mp al, [], [(al, .keys t [])]⟩)
  | .mset t, [.mp b, k, .d (.bool true)] => match look B b with
    | .keys t' l => if h : t' = t then (asKey t k).bind fun x => .ret ⟨.top, [b], [(b, .keys t (addKey t (show List t.den from h ▸ l) x))]⟩ else .fail
    | _ => .fail
  | .mget t, [.mp b, k] => match look B b with
    | .keys t' l => if h : t' = t then (asKey t k).bind fun x => .ret ⟨.d (.bool (hasKey t (show List t.den from h ▸ l) x)), [b], []⟩ else .fail
    | _ => .fail
  | .mlen, [.mp b] => match look B b with
    | .keys _ l => .ret ⟨.d (.int .i64 (l.length : Nat)), [b], []⟩
    | _ => .fail
  | .isnili ng, [x] => match x with
    | .d .nili => .ret ⟨.d (.bool (!ng)), [], []⟩
    | .ifc _ => .ret ⟨.d (.bool ng), [], []⟩
    | _ => .fail
  | _, _ => .fail

def setD (env : Env) (d : Option Nat) (v : AV) : Env :=
  match d with
  | some i => env.set i v
  | none => env

def evOper (byref : FuncId → Bool) (call : Caller) (o : AOper) (env : Env) (B : Boxes) (al : Nat) : M (Env × Boxes × List Nat × List Nat) :=
  match o.guard with
  | none => (evOp byref call o.op (o.args.map (rdA env)) B al).bind fun r => .ret (setD env o.dst r.val, upd B r.writes, r.reads, r.writes.map (·.1))
  | some (g, want) => match env.getD g .top with
    | .d (.bool b) => .br b fun p => if p == want then (evOp byref call o.op (o.args.map (rdA env)) B al).bind fun r => .ret (setD env o.dst r.val, upd B r.writes, r.reads, r.writes.map (·.1))
        else .ret (setD env o.dst (.tup []), B, [], [])
    | .tup [] => .ret (setD env o.dst (.tup []), B, [], [])
    | _ => .fail

def evOps (byref : FuncId → Bool) (call : Caller) : List AOper → Env → Boxes → M (Env × Boxes)
  | [], env, B => .ret (env, B)
  | o :: os, env, B => (evOper byref call o env B B.length).bind fun (env', B', _, _) => evOps byref call os env' B'

def AOper.looks (o : AOper) : List Nat :=
  (o.args.filterMap fun | .tmp i => some i | .val _ => none) ++ (match o.guard with | some (g, _) => [g] | none => [])

structure Rec where
  dst : Option Nat
  looks : List Nat
  reads : List Nat
  writes : List Nat

def disj (a b : List Nat) : Bool := a.all fun x => !b.contains x

def Rec.apart (x y : Rec) : Bool :=
  (match x.dst with | some d => !y.looks.contains d && y.dst != some d | none => true) &&
  (match y.dst with | some d => !x.looks.contains d | none => true) &&
  disj x.writes y.reads && disj x.writes y.writes && disj y.writes x.reads

def evDrawGo (byref : FuncId → Bool) (call : Caller) (base : Nat) : Nat → List AOper → Env → Boxes → M (Env × Boxes × List Rec)
  | _, [], env, B => .ret (env, B, [])
  | i, o :: os, env, B => (evOper byref call o env B (base + i * room)).bind fun (env', B', rs, ws) =>
    (evDrawGo byref call base (i + 1) os env' B').bind fun (env'', B'', recs) => .ret (env'', B'', ⟨o.dst, o.looks, rs, ws⟩ :: recs)

def ahead (after : List (List Nat)) : List Nat :=
  after.foldl (fun acc es => acc ++ [es.foldl (fun s e => s ||| 2 ^ e ||| acc.getD e 0) 0]) []

def apartGo (r : Rec) (j : Nat) (bits : List Nat) : List Rec → Bool
  | [] => true
  | x :: xs => match bits with
    | [] => false
    | b :: bs => (b.testBit j || Rec.apart r x) && apartGo r j bs xs

def apartAll : Nat → List Nat → List Rec → Bool
  | _, _, [] => true
  | j, bits, r :: rs => apartGo r j (bits.drop 1) rs && apartAll (j + 1) (bits.drop 1) rs

def evDraw (byref : FuncId → Bool) (call : Caller) (after : List (List Nat)) (ops : List AOper) (env : Env) (B : Boxes) : M (Env × Boxes) :=
  (evDrawGo byref call B.length 0 ops env (B ++ List.replicate (ops.length * room) .dead)).bind fun (env', B', recs) =>
    .ifb (apartAll 0 (ahead after) recs) (.ret (env', B'))

def clear (keep : Nat) (env : Env) : Env := env.mapIdx fun i v => cond (keep.testBit i) v .top

def compact (k0 : Nat) (env : Env) (B : Boxes) : M (Env × Boxes) :=
  let rs := reachGo B 1000 [] (List.range k0 ++ AV.refs.refsL env)
  .ifb ((List.range k0).all fun b => rs[b]? == some b) ((optM (AV.renL (idxIn rs) env)).bind fun env' => (pickBoxes B rs).bind fun B' => .ret (env', B'))

def cellTys : Ty → List Ty
  | .int k => [.int k]
  | .bool => [.bool]
  | .str => [.str]
  | .unit => []
  | .sl t => [.sl t]
  | .pair a b => cellTys a ++ cellTys b
  | .rose t => cellTys t ++ [.sl (.rose t)]

def normC (t : Ty) (a : AV) : AV := match a with
  | .d .nils => (match t with | .sl u => .d (.sl u []) | _ => .d .nils)
  | a => a

def normCs : List Ty → List AV → List AV
  | t :: ts, a :: as => normC t a :: normCs ts as
  | _, as => as

def normX (t : Ty) (x : Box) : Box := match x with
  | .cells l => .cells (normCs (cellTys t) l)
  | x => x

def forgC (a : AV) : AV := match a with
  | .sr b off len sz _ => .sr b off len sz none
  | a => a

def headC (m : Option Ty) (a : AV) : AV := match m, a with
  | some t, .agg cs => .agg (normCs (cellTys t) cs)
  | some t, a => normC t a
  | none, a => forgC a

structure Hd where
  env : List (Nat × Option Ty)
  box : List (Nat × Ty)
  /-- Slots whose rows are closed: from here on they are plain data. -/
  fz : List Nat := []

def noHd : Nat → Hd := fun _ => ⟨[], [], []⟩

def frz : List Nat → Env → Boxes → M (Env × Boxes)
  | [], env, B => .ret (env, B)
  | i :: l, env, B => (snap B (env.getD i .top)).bind fun (a, ws) => frz l (env.set i a) (upd B ws)

def headE (l : List (Nat × Option Ty)) (env : Env) : Env := l.foldl (fun e p => e.set p.1 (headC p.2 (e.getD p.1 .top))) env

def headB (l : List (Nat × Ty)) (B : Boxes) : Boxes := l.foldl (fun B p => B.set p.1 (normX p.2 (look B p.1))) B

def head (h : Hd) (k0 keep : Nat) (env : Env) (B : Boxes) : M (Env × Boxes) :=
  (frz h.fz (clear keep env) B).bind fun (e, C) => (compact k0 e C).bind fun (e, C) => .ret (headE h.env e, headB h.box C)

structure AFn where
  ntmps : Nat
  /-- Slots; with a load: aggregate or not, how many cells. -/
  results : List (Nat × Option (Bool × Nat))
  body : AC
  /-- What it hands back are plain data. -/
  plain : Bool
  /-- It may write its slices. -/
  byref : Bool
  /-- What is told less of at its loops' heads. -/
  hd : Nat → Hd

def loopN (h : Hd) (k0 keep : Nat) (f : Env → Boxes → M (AEx × Env × Boxes)) : Nat → Env → Boxes → M (AEx × Env × Boxes)
  | 0, _, _ => .fail
  | n + 1, env, B => (head h k0 keep env B).bind fun (env, B) => (f env B).bind fun (e, env', B') => match e with
    | .normal => loopN h k0 keep f n env' B'
    | e => .ret (e, env', B')

def evC (byref : FuncId → Bool) (call : Caller) (n k0 : Nat) (hd : Nat → Hd) : AC → Env → Boxes → M (AEx × Env × Boxes)
  | .skip, env, B => .ret (.normal, env, B)
  | .region ops none, env, B => (evOps byref call ops env B).bind fun (env', B') => .ret (.normal, env', B')
  | .region ops (some after), env, B => (evDraw byref call after ops env B).bind fun (env', B') => .ret (.normal, env', B')
  | .seq a b, env, B => (evC byref call n k0 hd a env B).bind fun (e, env', B') => match e with
    | .normal => evC byref call n k0 hd b env' B'
    | e => .ret (e, env', B')
  | .cnd c a b, env, B => match rdA env c with
    | .d (.bool t) => .br t fun p => cond p (evC byref call n k0 hd a env B) (evC byref call n k0 hd b env B)
    | _ => .fail
  | .block id a, env, B => (evC byref call n k0 hd a env B).bind fun (e, env', B') => match e with
    | .exit id' => .ret (if id' = id then .normal else .exit id', env', B')
    | e => .ret (e, env', B')
  | .loop keep a, env, B => loopN (hd keep) k0 keep (evC byref call n k0 hd a) n env B
  | .exit id, env, B => .ret (.exit id, env, B)
  | .ret, env, B => .ret (.ret, env, B)
  | .bad, _, _ => .fail

def resVal (env : Env) (B : Boxes) : Nat × Option (Bool × Nat) → M AV
  | (i, none) => .ret (env.getD i .top)
  | (i, some (agg, n)) => (cellsAt B (env.getD i .top) n).bind fun (cs, _) => match agg, cs with
    | true, cs => .ret (.agg cs)
    | false, [c] => .ret c
    | false, _ => .fail

def resVals (env : Env) (B : Boxes) : List (Nat × Option (Bool × Nat)) → M (List AV)
  | [] => .ret []
  | r :: rs => (resVal env B r).bind fun v => (resVals env B rs).bind fun vs => .ret (v :: vs)

def oneOf : List AV → AV
  | [v] => v
  | vs => .tup vs

def finish (k0 : Nat) (plain : Bool) (results : List (Nat × Option (Bool × Nat))) (env : Env) (B : Boxes) : M (AV × Boxes) :=
  (resVals env B results).bind fun vs =>
  (if plain then snapL B vs else M.ret (vs, [])).bind fun (vs, ws) =>
  (compact k0 vs (upd B ws)).bind fun (vs', B') => .ret (oneOf vs', B')

def evCall (F : FuncId → Option AFn) (S : FuncId → Option (List AV → Boxes → M (AV × Boxes))) : Nat → Caller
  | 0, _, _, _ => .fail
  | n + 1, f, args, B => match S f with
    | some s => s args B
    | none => match F f with
      | none => .fail
      | some fn => (evC (fun g => match F g with | some h => h.byref | none => false) (evCall F S n) n B.length fn.hd fn.body (args ++ List.replicate (fn.ntmps - args.length) (.tup [])) B).bind fun (e, env, B') => match e with
        | .exit _ => .fail
        | _ => finish B.length fn.plain fn.results env B'

end Go.Ev
namespace Go.Ev
set_option linter.unusedVariables false
set_option linter.unusedSimpArgs false
set_option linter.unusedSectionVars false
variable [Ctx]

theorem mv_of {X : Blocks} {β : Map} {N : Nat → Prop} {w : World} {L : Looks} {β' : Map} {N' : Nat → Prop} {w' : World} {L' : Looks}
    (hf : Fr (Own β L) w (Own β' L') w') (hn : ∀ b, N b → N' b ∧ β' b = β b) : Mv (All X β L) β N w (All X β' L') β' N' w' :=
  ⟨hf.size, fun c hc h => ⟨fun h' => h'.elim (fun hx => h (.inl hx)) (fun ho => (hf.blk c hc fun hh => h (.inr hh)).1 ho), (hf.blk c hc fun hh => h (.inr hh)).2⟩, hf.shape,
   fun b h => (hn b h).1, fun b h => (hn b h).2⟩

def Step (X : Blocks) (β : Map) (N : Nat → Prop) (w : World) (L : Looks) (al : Nat) (L' : Looks) (val : AV) (v : Value) (w' : World) : Prop :=
  ∃ β' N', SimB X β' N' w' L' ∧ VR (All X β' L') β' N' w' val v ∧ Fr (Own β L) w (Own β' L') w' ∧ (∀ b, N b → N' b ∧ β' b = β b) ∧ (∀ b, N' b → N b ∨ (al ≤ b ∧ b < al + room ∧ L' b ≠ .dead))

theorem Step.same {X : Blocks} {β : Map} {N : Nat → Prop} {w : World} {L : Looks} {al : Nat} {val : AV} {v : Value} (h : SimB X β N w L) (hv : VR (All X β L) β N w val v) :
    Step X β N w L al L val v w := ⟨β, N, h, hv, Fr.refl _ _, fun b hb => ⟨hb, rfl⟩, fun b hb => .inl hb⟩

def updL (L : Looks) (i : Nat) (x : Box) : Looks := fun b => if b = i then x else L b

theorem look_setE (B : Boxes) (i : Nat) (x : Box) : look (setE B i x) = updL (look B) i x := by
  funext b
  unfold look setE updL
  split
  · rename_i h
    simp only [List.getD_eq_getElem?_getD, List.getElem?_set]
    by_cases hb : b = i
    · subst hb; simp [h]
    · simp [hb, Ne.symm hb]
  · rename_i h
    simp only [List.getD_eq_getElem?_getD, List.append_assoc]
    rw [List.getElem?_append]
    by_cases hb : b = i
    · subst hb
      rw [if_neg h, List.getElem?_append_right (by simp)]
      simp
    · rw [if_neg hb]
      split
      · rfl
      · rename_i h2
        rw [List.getElem?_append]
        simp only [List.length_replicate]
        split
        · rename_i h3
          rw [List.getElem?_replicate, if_pos h3]
          simp [List.getElem?_eq_none (Nat.le_of_not_lt h2)]
        · rename_i h3
          rw [List.getElem?_eq_none (by simp; omega), List.getElem?_eq_none (by omega)]

theorem length_setE (B : Boxes) (i : Nat) (x : Box) : (setE B i x).length = max B.length (i + 1) := by
  unfold setE
  split
  · simp; omega
  · simp; omega

def updsL (L : Looks) (ws : List (Nat × Box)) : Looks := ws.foldl (fun L (i, x) => updL L i x) L

theorem look_upd : ∀ (ws : List (Nat × Box)) (B : Boxes), look (upd B ws) = updsL (look B) ws
  | [], B => rfl
  | (i, x) :: ws, B => by
    have := look_upd ws (setE B i x)
    rw [look_setE] at this
    exact this

theorem heap_new (w : World) (o : Obj) : (w.alloc o).heap[w.heap.size]? = some o := heap_alloc_new w o
theorem heap_old (w : World) (o : Obj) {c : Nat} (h : c < w.heap.size) : (w.alloc o).heap[c]? = w.heap[c]? := heap_alloc_old w o c h

theorem Fr.alloc (O O' : Blocks) (w : World) (o : Obj) (h : ∀ c, c < w.heap.size → ¬ O c → ¬ O' c) : Fr O w O' (w.alloc o) :=
  ⟨rfl, rfl, rfl, by simp, fun c hc ho => ⟨h c hc ho, heap_old w o hc⟩, fun c arr e fz ha => ⟨arr, fz, by rw [heap_old w o (heap_lt ha)]; exact ha, rfl⟩⟩

theorem Step.new {X : Blocks} {β : Map} {N : Nat → Prop} {w : World} {L : Looks} {al : Nat} {x : Box} {o : Obj} {val : AV} {v : Value}
    (h : SimB X β N w L) (ha : ¬ N al) (hx0 : x ≠ .dead)
    (hb : ∀ β' N', Mv (All X β L) β N w (All X β' (updL L al x)) β' N' (w.alloc o) → β' al = some w.heap.size → N' al →
      BoxR (All X β' (updL L al x)) β' N' (w.alloc o) al x ∧ VR (All X β' (updL L al x)) β' N' (w.alloc o) val v) :
    Step X β N w L al (updL L al x) val v (w.alloc o) := by
  have hd : L al = .dead := by
    cases hl : L al with
    | dead => rfl
    | _ => exact (ha (h.dom al (by rw [hl]; simp))).elim
  let β' : Map := fun b => if b = al then some w.heap.size else β b
  let N' : Nat → Prop := fun b => N b ∨ b = al
  have hβ : ∀ b, N b → N' b ∧ β' b = β b := fun b hb => ⟨.inl hb, if_neg fun (e : b = al) => ha (e ▸ hb)⟩
  have hown : ∀ c, Own β' (updL L al x) c → Own β L c ∨ c = w.heap.size := by
    rintro c ⟨b, h1, h2⟩
    by_cases e : b = al
    · subst e
      simp [β'] at h2
      exact .inr h2.symm
    · refine .inl ⟨b, ?_, ?_⟩
      · simpa [updL, e] using h1
      · simpa [β', e] using h2
  have hf : Fr (Own β L) w (Own β' (updL L al x)) (w.alloc o) := Fr.alloc _ _ _ _ fun c hc ho ho' => (hown c ho').elim ho (fun e => by omega)
  have mv := mv_of (X := X) hf hβ
  have oldlt : ∀ b c, L b ≠ .dead → β b = some c → c < w.heap.size := by
    intro b c hne hc
    have := h.box b
    cases hl : L b with
    | dead => exact (hne hl).elim
    | cells l => rw [hl] at this; obtain ⟨c', arr, e, h1, h2, _⟩ := this; rw [hc] at h1; cases h1; exact heap_lt h2
    | keys t l => rw [hl] at this; obtain ⟨c', es, k, h1, h2, _⟩ := this; rw [hc] at h1; cases h1; exact heap_lt h2
    | arr t l q =>
      rw [hl] at this
      obtain ⟨_, this⟩ := this
      rcases this with ⟨h1, _⟩ | ⟨c', arr, e, h1, h2, _⟩
      · rw [hc] at h1; cases h1
      · rw [hc] at h1; cases h1; exact heap_lt h2
  obtain ⟨hb1, hb2⟩ := hb β' N' mv (if_pos rfl) (.inr rfl)
  refine ⟨β', N', ⟨?_, ?_, ?_, ?_, ?_, h.tabs' hf⟩, hb2, hf, hβ, ?_⟩
  · intro c ho hx
    rcases hown c ho with ho | rfl
    · exact h.apart c ho hx
    · exact absurd (h.old _ hx) (Nat.lt_irrefl _)
  · intro b b' c l1 l2 e1 e2
    by_cases eb : b = al
    · by_cases eb' : b' = al
      · rw [eb, eb']
      · simp [β', eb, eb'] at e1 e2
        simp [updL, eb'] at l2
        have := oldlt b' c (fun e => by rw [e] at l2; simp [Box.live] at l2) e2
        omega
    · by_cases eb' : b' = al
      · simp [β', eb, eb'] at e1 e2
        simp [updL, eb] at l1
        have := oldlt b c (fun e => by rw [e] at l1; simp [Box.live] at l1) e1
        omega
      · simp [β', eb, eb'] at e1 e2
        simp [updL, eb, eb'] at l1 l2
        exact h.inj b b' c l1 l2 e1 e2
  · intro b
    by_cases e : b = al
    · subst e
      rw [show updL L b x b = x from if_pos rfl]
      exact hb1
    · rw [show updL L al x b = L b from if_neg e]
      by_cases hl : L b = .dead
      · rw [hl]; trivial
      · exact (h.box b).move mv (h.dom b hl) fun c hc hne => heap_old w o (oldlt b c hl hc)
  · intro b hl
    by_cases e : b = al
    · exact .inr e
    · exact .inl (h.dom b (by simpa [updL, e] using hl))
  · intro c hx
    have := h.old c hx
    simp; omega
  · rintro b (hb | rfl)
    · exact .inl hb
    · exact .inr ⟨Nat.le_refl _, by simp [room], by simpa [updL] using hx0⟩

theorem SimB.lt {X : Blocks} {β : Map} {N : Nat → Prop} {w : World} {L : Looks} (h : SimB X β N w L) {b c : Nat} (hne : L b ≠ .dead) (hc : β b = some c) : c < w.heap.size := by
  have := h.box b
  cases hl : L b with
  | dead => exact (hne hl).elim
  | cells l => rw [hl] at this; obtain ⟨c', arr, e, h1, h2, _⟩ := this; rw [hc] at h1; cases h1; exact heap_lt h2
  | keys t l => rw [hl] at this; obtain ⟨c', es, k, h1, h2, _⟩ := this; rw [hc] at h1; cases h1; exact heap_lt h2
  | arr t l q =>
    rw [hl] at this
    obtain ⟨_, this⟩ := this
    rcases this with ⟨h1, _⟩ | ⟨c', arr, e, h1, h2, _⟩
    · rw [hc] at h1; cases h1
    · rw [hc] at h1; cases h1; exact heap_lt h2

theorem Step.put' {X : Blocks} {β : Map} {N : Nat → Prop} {w w' : World} {L : Looks} {b c : Nat} {x : Box} {val : AV} {v : Value} {arr arr' : Array Value} {e : TypeId}
    (h : SimB X β N w L) (hl : (L b).live = true) (hx : x.live = true) (hc : β b = some c) (ha : w.heap[c]? = some (.cells arr e (0, 0))) (ha' : w'.heap[c]? = some (.cells arr' e (0, 0)))
    (hsz : arr'.size = arr.size) (hz : w'.heap.size = w.heap.size) (hos : w'.os = w.os) (htp : w'.tape = w.tape) (hou : w'.output = w.output) (hoth : ∀ k, k ≠ c → w'.heap[k]? = w.heap[k]?)
    (hb : Mv (All X β L) β N w (All X β (updL L b x)) β N w' → BoxR (All X β (updL L b x)) β N w' b x ∧ VR (All X β (updL L b x)) β N w' val v) :
    SimB X β N w' (updL L b x) ∧ VR (All X β (updL L b x)) β N w' val v ∧ Fr (Own β L) w (Own β (updL L b x)) w' := by
  have hown : ∀ k, Own β (updL L b x) k ↔ Own β L k := by
    intro k
    constructor
    · rintro ⟨b', h1, h2⟩
      by_cases eb : b' = b
      · subst eb; exact ⟨b', hl, h2⟩
      · exact ⟨b', by simpa [updL, eb] using h1, h2⟩
    · rintro ⟨b', h1, h2⟩
      by_cases eb : b' = b
      · subst eb; exact ⟨b', by simpa [updL] using hx, h2⟩
      · exact ⟨b', by simpa [updL, eb] using h1, h2⟩
  have hf : Fr (Own β L) w (Own β (updL L b x)) w' := by
    refine ⟨hos, htp, hou, by omega, fun k hk ho => ⟨fun ho' => ho ((hown k).1 ho'), hoth k fun e => ho (e ▸ ⟨b, hl, hc⟩)⟩, fun k a q fz hk => ?_⟩
    by_cases ek : k = c
    · subst ek
      rw [ha] at hk
      cases hk
      exact ⟨arr', _, ha', hsz⟩
    · exact ⟨a, fz, by rw [hoth k ek]; exact hk, rfl⟩
  have mv := mv_of (X := X) hf (β' := β) (N := N) (N' := N) fun b hb => ⟨hb, rfl⟩
  obtain ⟨hb1, hb2⟩ := hb mv
  refine ⟨⟨?_, ?_, ?_, ?_, ?_, h.tabs' hf⟩, hb2, hf⟩
  · exact fun k ho => h.apart k ((hown k).1 ho)
  · intro b1 b2 k l1 l2 e1 e2
    refine h.inj b1 b2 k ?_ ?_ e1 e2
    · by_cases eb : b1 = b
      · subst eb; exact hl
      · simpa [updL, eb] using l1
    · by_cases eb : b2 = b
      · subst eb; exact hl
      · simpa [updL, eb] using l2
  · intro b1
    by_cases eb : b1 = b
    · subst eb
      rw [show updL L b1 x b1 = x from if_pos rfl]
      exact hb1
    · rw [show updL L b x b1 = L b1 from if_neg eb]
      by_cases hd : L b1 = .dead
      · rw [hd]; trivial
      · refine (h.box b1).move mv (h.dom b1 hd) fun k hk hne => hoth k fun ek => ?_
        subst ek
        -- the block is the other box's: it is live, or lies out of what is owned
        cases hq : (L b1).live with
        | true => exact eb (h.inj b1 b k hq hl hk hc)
        | false =>
          have hbx := h.box b1
          cases hL : L b1 with
          | dead => exact hne hL
          | cells l => rw [hL] at hq; simp [Box.live] at hq
          | keys t l => rw [hL] at hq; simp [Box.live] at hq
          | arr t l m =>
            rw [hL] at hq hbx
            obtain ⟨_, hbx⟩ := hbx
            rcases hbx with ⟨g1, _⟩ | ⟨c', a1, e1, g1, g2, g3, g4, _⟩
            · rw [hk] at g1; cases g1
            · rw [hk] at g1
              cases g1
              exact g4.1 (by simpa [Box.live] using hq) (.inr ⟨b, hl, hc⟩)
  · intro b1 hd
    by_cases eb : b1 = b
    · subst eb
      exact h.dom b1 fun e => by rw [e] at hl; simp [Box.live] at hl
    · exact h.dom b1 (by simpa [updL, eb] using hd)
  · intro k hk
    have := h.old k hk
    omega

theorem Step.put {X : Blocks} {β : Map} {N : Nat → Prop} {w w' : World} {L : Looks} {al b c : Nat} {x : Box} {val : AV} {v : Value} {arr arr' : Array Value} {e : TypeId}
    (h : SimB X β N w L) (hl : (L b).live = true) (hx : x.live = true) (hc : β b = some c) (ha : w.heap[c]? = some (.cells arr e (0, 0))) (ha' : w'.heap[c]? = some (.cells arr' e (0, 0)))
    (hsz : arr'.size = arr.size) (hz : w'.heap.size = w.heap.size) (hos : w'.os = w.os) (htp : w'.tape = w.tape) (hou : w'.output = w.output) (hoth : ∀ k, k ≠ c → w'.heap[k]? = w.heap[k]?)
    (hb : Mv (All X β L) β N w (All X β (updL L b x)) β N w' → BoxR (All X β (updL L b x)) β N w' b x ∧ VR (All X β (updL L b x)) β N w' val v) :
    Step X β N w L al (updL L b x) val v w' := by
  obtain ⟨h1, h2, h3⟩ := Step.put' (val := val) (v := v) h hl hx hc ha ha' hsz hz hos htp hou hoth hb
  exact ⟨β, N, h1, h2, h3, fun b hb => ⟨hb, rfl⟩, fun b hb => .inl hb⟩

theorem Step.shut {X : Blocks} {β : Map} {N : Nat → Prop} {w : World} {L : Looks} {al b : Nat} {t : Ty} {l : List t.den} {q : Bool}
    (h : SimB X β N w L) (hl : L b = .arr t l q) : SimB X β N w (updL L b (.arr t l false)) ∧ Fr (Own β L) w (Own β (updL L b (.arr t l false))) w := by
  have hown : ∀ k, Own β (updL L b (.arr t l false)) k → Own β L k := by
    rintro k ⟨b', h1, h2⟩
    by_cases eb : b' = b
    · subst eb; simp [updL, Box.live] at h1
    · exact ⟨b', by simpa [updL, eb] using h1, h2⟩
  have hf : Fr (Own β L) w (Own β (updL L b (.arr t l false))) w := ⟨rfl, rfl, rfl, Nat.le_refl _, fun k hk ho => ⟨fun ho' => ho (hown k ho'), rfl⟩, fun k a e fz hk => ⟨a, fz, hk, rfl⟩⟩
  have mv := mv_of (X := X) hf (β' := β) (N := N) (N' := N) fun b hb => ⟨hb, rfl⟩
  refine ⟨⟨fun k ho => h.apart k (hown k ho), ?_, ?_, ?_, h.old, h.tabs' hf⟩, hf⟩
  · intro b1 b2 k l1 l2 e1 e2
    have g : ∀ b1, (updL L b (.arr t l false) b1).live = true → (L b1).live = true := by
      intro b1 l1
      by_cases eb : b1 = b
      · subst eb; simp [updL, Box.live] at l1
      · simpa [updL, eb] using l1
    exact h.inj b1 b2 k (g b1 l1) (g b2 l2) e1 e2
  · intro b1
    by_cases eb : b1 = b
    · subst eb
      rw [show updL L b1 (.arr t l false) b1 = .arr t l false from if_pos rfl]
      have := (h.box b1).move mv (h.dom b1 (by rw [hl]; simp)) (fun _ _ _ => rfl)
      rw [hl] at this
      obtain ⟨h0, this⟩ := this
      refine ⟨h0, ?_⟩
      rcases this with g | ⟨c, arr, e, g1, g2, g3, g4, g5⟩
      · exact .inl g
      · refine .inr ⟨c, arr, e, g1, g2, g3, ⟨fun _ hx => ?_, g4.2⟩, g5⟩
        cases q with
        | false => exact g4.1 rfl hx
        | true =>
          rcases hx with hx | ⟨b2, l2, e2⟩
          · exact h.apart c ⟨b1, by rw [hl]; rfl, g1⟩ hx
          · by_cases eb2 : b2 = b1
            · subst eb2; simp [updL, Box.live] at l2
            · exact eb2 (h.inj b2 b1 c (by simpa [updL, eb2] using l2) (by rw [hl]; rfl) e2 g1)
    · rw [show updL L b (.arr t l false) b1 = L b1 from if_neg eb]
      by_cases hd : L b1 = .dead
      · rw [hd]; trivial
      · exact (h.box b1).move mv (h.dom b1 hd) fun _ _ _ => rfl
  · intro b1 hd
    by_cases eb : b1 = b
    · subst eb; exact h.dom b1 (by rw [hl]; simp)
    · exact h.dom b1 (by simpa [updL, eb] using hd)

theorem Step.kill {X : Blocks} {β : Map} {N : Nat → Prop} {w : World} {L : Looks} {b : Nat}
    (h : SimB X β N w L) : SimB X β N w (updL L b .dead) ∧ Fr (Own β L) w (Own β (updL L b .dead)) w := by
  have hown : ∀ k, Own β (updL L b .dead) k → Own β L k := by
    rintro k ⟨b', h1, h2⟩
    by_cases eb : b' = b
    · subst eb; simp [updL, Box.live] at h1
    · exact ⟨b', by simpa [updL, eb] using h1, h2⟩
  have hf : Fr (Own β L) w (Own β (updL L b .dead)) w := ⟨rfl, rfl, rfl, Nat.le_refl _, fun k hk ho => ⟨fun ho' => ho (hown k ho'), rfl⟩, fun k a e fz hk => ⟨a, fz, hk, rfl⟩⟩
  have mv := mv_of (X := X) hf (β' := β) (N := N) (N' := N) fun b hb => ⟨hb, rfl⟩
  refine ⟨⟨fun k ho => h.apart k (hown k ho), ?_, ?_, ?_, h.old, h.tabs' hf⟩, hf⟩
  · intro b1 b2 k l1 l2 e1 e2
    have g : ∀ b1, (updL L b .dead b1).live = true → (L b1).live = true := by
      intro b1 l1
      by_cases eb : b1 = b
      · subst eb; simp [updL, Box.live] at l1
      · simpa [updL, eb] using l1
    exact h.inj b1 b2 k (g b1 l1) (g b2 l2) e1 e2
  · intro b1
    by_cases eb : b1 = b
    · subst eb
      rw [show updL L b1 .dead b1 = .dead from if_pos rfl]
      trivial
    · rw [show updL L b .dead b1 = L b1 from if_neg eb]
      by_cases hd : L b1 = .dead
      · rw [hd]; trivial
      · exact (h.box b1).move mv (h.dom b1 hd) fun _ _ _ => rfl
  · intro b1 hd
    by_cases eb : b1 = b
    · subst eb; simp [updL] at hd
    · exact h.dom b1 (by simpa [updL, eb] using hd)

theorem Step.name {X : Blocks} {β : Map} {N : Nat → Prop} {w : World} {L : Looks} {al b : Nat} {t : Ty} {l : List t.den}
    (h : SimB X β N w L) (hl : L b = .arr t l true) (ha : ¬ N al) :
    let β' : Map := fun k => if k = al then β b else β k
    let N' : Nat → Prop := fun k => N k ∨ k = al
    let L' := updL (updL L b .dead) al (.arr t l true)
    SimB X β' N' w L' ∧ Fr (Own β L) w (Own β' L') w ∧ (∀ k, N k → N' k ∧ β' k = β k) ∧ (∀ k, N' k → N k ∨ (al ≤ k ∧ k < al + room ∧ L' k ≠ .dead)) ∧ β' al = β b ∧ N' al := by
  intro β' N' L'
  have hne : b ≠ al := fun e => ha (e ▸ h.dom b (by rw [hl]; simp))
  have hβ : ∀ k, N k → N' k ∧ β' k = β k := fun k hk => ⟨.inl hk, if_neg fun (e : k = al) => ha (e ▸ hk)⟩
  have hd : L al = .dead := by
    cases hq : L al with
    | dead => rfl
    | _ => exact (ha (h.dom al (by rw [hq]; simp))).elim
  have src : ∀ k, (L' k).live = true → ∃ k', (L k').live = true ∧ β' k = β k' ∧ (k = al → k' = b) ∧ (k ≠ al → k' = k ∧ k ≠ b) := by
    intro k hk
    by_cases e : k = al
    · exact ⟨b, by rw [hl]; rfl, if_pos e, fun _ => rfl, fun h => (h e).elim⟩
    · by_cases e2 : k = b
      · subst e2; simp [L', updL, e, Box.live] at hk
      · exact ⟨k, by simpa [L', updL, e, e2] using hk, if_neg e, fun h => (e h).elim, fun _ => ⟨rfl, e2⟩⟩
  have hown : ∀ c, Own β' L' c ↔ Own β L c := by
    intro c
    constructor
    · rintro ⟨k, h1, h2⟩
      obtain ⟨k', g1, g2, _⟩ := src k h1
      exact ⟨k', g1, by rw [← g2]; exact h2⟩
    · rintro ⟨k, h1, h2⟩
      by_cases e : k = b
      · subst e
        exact ⟨al, by simp [L', updL, Box.live], by simpa [β'] using h2⟩
      · have e2 : k ≠ al := fun e => by subst e; rw [hd] at h1; simp [Box.live] at h1
        exact ⟨k, by simpa [L', updL, e, e2] using h1, by simpa [β', e2] using h2⟩
  have hf : Fr (Own β L) w (Own β' L') w := ⟨rfl, rfl, rfl, Nat.le_refl _, fun c hc ho => ⟨fun ho' => ho ((hown c).1 ho'), rfl⟩, fun c a e fz hc => ⟨a, fz, hc, rfl⟩⟩
  have mv := mv_of (X := X) hf hβ
  refine ⟨⟨fun c ho => h.apart c ((hown c).1 ho), ?_, ?_, ?_, h.old, h.tabs' hf⟩, hf, hβ, ?_, if_pos rfl, .inr rfl⟩
  · intro k1 k2 c l1 l2 e1 e2
    obtain ⟨p, p1, p2, p3, p4⟩ := src k1 l1
    obtain ⟨q, q1, q2, q3, q4⟩ := src k2 l2
    have := h.inj p q c p1 q1 (by rw [← p2]; exact e1) (by rw [← q2]; exact e2)
    by_cases a1 : k1 = al
    · by_cases a2 : k2 = al
      · rw [a1, a2]
      · have := p3 a1; have := q4 a2; omega
    · by_cases a2 : k2 = al
      · have := p4 a1; have := q3 a2; omega
      · have := p4 a1; have := q4 a2; omega
  · intro k
    by_cases e : k = al
    · subst e
      rw [show L' k = .arr t l true from if_pos rfl]
      have := (h.box b).move mv (h.dom b (by rw [hl]; simp)) (fun _ _ _ => rfl)
      rw [hl] at this
      obtain ⟨h0, this⟩ := this
      have hb' : β' b = β b := if_neg hne
      have hk' : β' k = β b := if_pos rfl
      refine ⟨h0, ?_⟩
      rw [hk', ← hb']
      exact this
    · by_cases e2 : k = b
      · subst e2
        rw [show L' k = .dead by simp [L', updL, e]]
        trivial
      · rw [show L' k = L k by simp [L', updL, e, e2]]
        by_cases hq : L k = .dead
        · rw [hq]; trivial
        · exact (h.box k).move mv (h.dom k hq) fun _ _ _ => rfl
  · intro k hk
    by_cases e : k = al
    · exact .inr e
    · by_cases e2 : k = b
      · subst e2; exact .inl (h.dom k (by rw [hl]; simp))
      · exact .inl (h.dom k (by simpa [L', updL, e, e2] using hk))
  · rintro k (hk | rfl)
    · exact .inl hk
    · exact .inr ⟨Nat.le_refl _, by simp [room], by simp [L', updL]⟩

end Go.Ev
namespace Go.Ev
set_option linter.unusedVariables false
set_option linter.unusedSimpArgs false
set_option linter.unusedSectionVars false

def ofCell : Value → Option D
  | .bool b => some (.bool b)
  | .int k n => some (.int k n)
  | .string s => some (.str s.data.toList)
  | .pointer none => some .nilp
  | .slice none 0 0 => some .nils
  | .map none => some .nilm
  | .nilFunc => some .nilf
  | .nilIface => some .nili
  | _ => none

def ofCells : List Value → Option (List AV)
  | [] => some []
  | v :: vs => match ofCell v, ofCells vs with
    | some x, some xs => some (.d x :: xs)
    | _, _ => none

def ofValue : Value → Option AV
  | .agg cs => (ofCells cs.toList).map .agg
  | v => (ofCell v).map .d

def compArg : Operand → Option AArg
  | .tmp t => some (.tmp t)
  | .const v => (ofValue v).map .val
  | .func f => some (.val (.fn f []))
  | .global _ => none

def compArgs : List Operand → Option (List AArg)
  | [] => some []
  | x :: xs => match compArg x, compArgs xs with
    | some a, some as => some (a :: as)
    | _, _ => none

mutual
def tyOf (P : Program) : Nat → TypeId → Option Ty
  | 0, _ => none
  | n + 1, t => match P.underlying t with
    | some (.int k) => some (.int k)
    | some .bool => some .bool
    | some .string => some .str
    | some (.slice e) => match tyOf P n e with | some x => some (.sl x) | none => none
    | some (.struct fs) =>
      match fs.back? with
      | some f => if P.underlying f.type matches some (.slice _) then
          (match P.underlying f.type with
           | some (.slice e) => if e == t then (match tyFields P n (fs.toList.dropLast) with | some x => some (.rose x) | none => none) else tyFields P n fs.toList
           | _ => none)
        else tyFields P n fs.toList
      | none => some .unit
    | _ => none
def tyFields (P : Program) : Nat → List Field → Option Ty
  | 0, _ => none
  | _ + 1, [] => some .unit
  | n + 1, [f] => tyOf P n f.type
  | n + 1, f :: fs => match tyOf P n f.type, tyFields P n fs with
    | some a, some b => some (.pair a b)
    | _, _ => none
end

def sizeT (P : Program) (t : TypeId) : Option Nat := (P.info? t).map (·.size)

def aggT (P : Program) (t : TypeId) : Bool :=
  match P.underlying t with
  | some (.struct _) | some (.array _ _) => true
  | _ => false

def elemTy (P : Program) (e : TypeId) : Option Ty :=
  match tyOf P 60 e with
  | some t => if sizeT P e = some t.size ∧ 0 < t.size ∧ (t = .int .u8 → e < P.types.size ∧ P.underlyingId e = e) then some t else none
  | none => none

def zero1 : D → Value → Bool
  | .int k n, .int k' n' => k == k' && n == n'
  | .bool b, .bool b' => b == b'
  | .str l, .string s => l.isEmpty && s.data.toList.isEmpty
  | .sl _ l, .slice none 0 0 => l.isEmpty
  | _, _ => false

def zeros : List D → List Value → Bool
  | [], [] => true
  | d :: ds, v :: vs => zero1 d v && zeros ds vs
  | _, _ => false

def zeroT (P : Program) (e : TypeId) (t : Ty) : Bool :=
  match P.info? e with
  | some i => match i.zero with
    | some z => zeros (encC t t.dflt) z.cells.toList
    | none => false
  | none => false

def zeroAVs (P : Program) (e : TypeId) : Option (List AV) :=
  match P.info? e with
  | some i => match i.zero with
    | some z => ofCells z.cells.toList
    | none => none
  | none => none

def bytesT (P : Program) (t : TypeId) : Option Nat := (P.info? t).map (·.bytes)

def eqKinds (P : Program) : Nat → List Field → Option (List Nat)
  | _, [] => some []
  | off, f :: fs =>
    if f.name ≠ "_" ∧ f.offset = off then
      match P.underlying f.type, eqKinds P (off + 1) fs with
      | some (.int _), some ks => some (0 :: ks)
      | some .bool, some ks => some (1 :: ks)
      | some .string, some ks => some (2 :: ks)
      | _, _ => none
    else none

def placesS (P : Program) (fs : Array Field) : List (Nat × Operand) → Option (List (Nat × Nat))
  | [] => some []
  | (i, _) :: r => match fs[i]? with
    | some f => match sizeT P f.type, placesS P fs r with
      | some n, some ps => some ((f.offset, n) :: ps)
      | _, _ => none
    | none => none

def isBin : BinOp → Bool
  | _ => true

def isNeg : BinOp → Option Bool
  | .eql => some false
  | .neq => some true
  | _ => none

def constNil : Operand → Option Nat
  | .const (.slice none 0 0) => some 0
  | .const (.pointer none) => some 1
  | .const .nilFunc => some 2
  | _ => none

def kindNil (P : Program) (t : TypeId) : Option Nat :=
  match P.underlying t with
  | some (.slice _) => some 0
  | some (.pointer _) => some 1
  | some (.func _ _ _) => some 2
  | _ => none

def isByte (P : Program) (e : TypeId) : Bool := match P.underlying e with
  | some (.int .u8) => true
  | _ => false

def indexByteG : List D → M D
  | [.str s, .int .u8 c] => .ret (.int .i64 (Lib.indexByte s c.toNat.toUInt8))
  | _ => .fail

def countByteG : List D → M D
  | [.str s, .int .u8 c] => .ret (.int .i64 (Lib.countByte s c.toNat.toUInt8))
  | _ => .fail

def externG (P : Program) (f : FuncId) : Option (List D → M D) :=
  match P.funcs[f]? with
  | some fn => if fn.body.isNone && !(fn.name == "runtime.NumGoroutine") && (Extern.findNext fn).isNone then
      (if fn.name = "internal/bytealg.IndexByteString" then some indexByteG else if fn.name = "internal/bytealg.CountString" then some countByteG else none)
    else none
  | none => none

def selfT (P : Program) (e : TypeId) : Bool := match P.underlying e with
  | some (.struct fs) => match fs[0]? with
    | some f => f.offset == 0 && (match P.underlying f.type with
      | some (.pointer u) => u == e
      | _ => false)
    | none => false
  | _ => false

def headNil : List AV → Bool
  | .d .nilp :: _ => true
  | _ => false

def isConstNili : Operand → Bool
  | .const .nilIface => true
  | _ => false

def ustrT (P : Program) (t u : TypeId) : Bool := match P.underlying t with
  | some (.pointer e) => decide (elemTy P e = some (.int .u8)) && decide (P.cellsOf e = 1) && (match P.underlying u with
    | some (.int .i64) => true
    | _ => false)
  | _ => false

class TagOK (P : Program) [Ctx] : Prop where
  tag_of : ∀ (e : TypeId) (t : Ty), elemTy P e = some t → Ctx.tag t e
  byte : ∀ (e e' : TypeId), elemTy P e = some (.int .u8) → Ctx.tag (.int .u8) e' → e' = e

def ovlF (P : Program) (f : FuncId) : Bool := match P.funcs[f]? with
  | some fn => fn.body.isNone && decide (fn.origin = "slices.overlaps") && !(fn.name == "runtime.NumGoroutine") && (Extern.findNext fn).isNone && (Extern.allGenericRows.lookup fn.name).isNone && (Extern.allTypedRows.lookup fn.name).isNone && (Extern.allRows.lookup fn.name).isNone && (match fn.params.toList with
    | [t, u] => t == u && (match P.underlying t with
      | some (.slice e) => (match sizeT P e with | some _ => true | none => false)
      | _ => false)
    | _ => false)
  | none => false

def keyTy (P : Program) (k : TypeId) : Option Ty :=
  match P.underlying k with
  | some .string => some .str
  | some (.int i) => some (.int i)
  | _ => none
def zeroFalse (P : Program) (e : TypeId) : Bool :=
  match P.info? e with
  | some i => match i.zero with
    | some (.bool false) => true
    | _ => false
  | none => false

def compOp (P : Program) (o : Oper) : Option (AOp × List Operand) :=
  match o.op with
  | .move x => some (.mv, [x])
  | .assign x =>
    if constNil x = some 0 then
      match P.underlying o.type with
      | some (.slice e) => match elemTy P e with
        | some t => some (.nilArr t, [])
        | none => some (.mv, [x])
      | _ => some (.mv, [x])
    else some (.mv, [x])
  | .pick c a b => some (.pick, [c, a, b])
  | .alloc e => match zeroAVs P e with
    | some zs => if selfT P e && headNil zs then some (.allocT e zs, []) else some (.alloc zs, [])
    | none => none
  | .box e x => match sizeT P e with | some n => some (.box n, [x]) | none => none
  | .build t ps => match P.underlying t, zeroAVs P t with
    | some (.struct fs), some zs => match placesS P fs ps.toList with | some pl => if fs.all (fun f => (sizeT P f.type).isSome) then some (.build zs pl, ps.toList.map (·.2)) else none | none => none
    | _, _ => none
  | .buildSlice t n ps => match P.underlying t with
    | some (.slice e) => match elemTy P e with
      | some ty => if zeroT P e ty = true ∧ n * ty.size ≤ 16777216 then some (.lit ty n (ps.toList.map (·.1)), ps.toList.map (·.2)) else none
      | none => none
    | _ => none
  | .load t a => match sizeT P t with | some n => if (P.underlying t).isSome then some (.load (aggT P t) n, [a]) else none | none => none
  | .store t a x => match sizeT P t with | some n => some (.store n, [a, x]) | none => none
  | .nilCheck x => some (.chk, [x])
  | .binOp op t x y _ =>
    match P.underlying t with
    | some (.int _) | some .string => some (.bin op, [x, y])
    | some .bool => match isNeg op with | some ng => some (.eqb ng, [x, y]) | none => none
    | some (.struct fs) => match isNeg op, eqKinds P 0 fs.toList with
      | some ng, some ks => if P.stoodInHeld t || P.eqGuardType P.depth t then none else some (.eqs ng ks, [x, y])
      | _, _ => none
    | some (.interface _) => match isNeg op with
      | some ng => if isConstNili y then some (.isnili ng, [x]) else none
      | none => none
    | _ => match isNeg op, constNil y, kindNil P t with
      | some ng, some k, some k' => if k = k' then some (.isnil ng k, [x]) else none
      | _, _, _ => none
  | .unOp op _ x => some (.un op, [x])
  | .convert src dst x => match P.underlying src, P.underlying dst with
    | some (.int _), some (.int k) => some (.toInt k, [x])
    | some .string, some .string => some (.idstr, [x])
    | some .string, some (.slice e) => if isByte P e then some (.s2b, [x]) else none
    | some (.slice e), some .string => if isByte P e then some (.b2s, [x]) else none
    | _, _ => none
  | .makeFunc (.func f) first caps => if first.isEmpty then some (.clo f, caps.toList) else none
  | .makeMap t none => match P.underlying t with
    | some (.map k e) => match keyTy P k with
      | some ty => if zeroFalse P e then some (.mkm ty, []) else none
      | none => none
    | _ => none
  | .lookup t x ix ok => if ok then none else match P.underlying t with
    | some (.map k e) => match keyTy P k with
      | some ty => if zeroFalse P e then some (.mget ty, [x, ix]) else none
      | none => none
    | _ => none
  | .mapUpdate t x ix v => match P.underlying t with
    | some (.map k _) => match keyTy P k with
      | some ty => some (.mset ty, [x, ix, v])
      | none => none
    | _ => none
  | .insert t x ix v => match P.underlying t with
    | some (.map k _) => match keyTy P k with
      | some ty => some (.mset ty, [x, ix, v])
      | none => none
    | _ => none
  | .makeSlice t l c => match P.underlying t with
    | some (.slice e) => match elemTy P e, bytesT P e with
      | some ty, some b => if zeroT P e ty then some (.mk ty b, [l, c]) else none
      | _, _ => none
    | _ => none
  | .slice t x lo hi mx => match P.underlying t with
    | some .string => some (.cut none 0 lo.isSome hi.isSome mx.isSome, [x] ++ lo.toList ++ hi.toList ++ mx.toList)
    | some (.slice e) => match sizeT P e with | some n => if n = 0 then none else some (.cut (elemTy P e) n lo.isSome hi.isSome mx.isSome, [x] ++ lo.toList ++ hi.toList ++ mx.toList) | none => none
    | _ => none
  | .fieldAddr s x f => match P.underlying s with
    | some (.struct fs) => match fs[f]? with
      | some fd => match sizeT P fd.type with | some n => if n = 0 then none else some (.fld fd.offset, [x]) | none => none
      | none => none
    | _ => none
  | .field t x f => match P.underlying t with
    | some (.struct fs) => match fs[f]? with
      | some fd => match sizeT P fd.type with | some n => if (P.underlying fd.type).isSome then some (.get (aggT P fd.type) fd.offset n, [x]) else none | none => none
      | none => none
    | _ => none
  | .indexAddr t x i => match P.underlying t with
    | some (.slice e) => match sizeT P e with | some n => some (.elm n, [x, i]) | none => none
    | _ => none
  | .index t x i => match P.underlying t with
    | some .string => some (.chr, [x, i])
    | _ => none
  | .extract t i => some (.ext i, [t])
  | .call c => match c.callee with
    | .value (.func f) => match externG P f with
      | some g => some (.prim g, c.args.toList)
      | none => if ovlF P f then some (.ovl, c.args.toList) else some (.call f, c.args.toList)
    | .value (.tmp t) => some (.callv, .tmp t :: c.args.toList)
    | .value _ => none
    | .invoke _ _ => none
    | .builtin .len => match c.argTypes[0]? with
      | some t => match P.underlying t with | some (.slice _) => some (.len false, c.args.toList) | some .string => some (.len true, c.args.toList) | some (.map _ _) => some (.mlen, c.args.toList) | _ => none
      | none => none
    | .builtin .append => match c.argTypes.toList with
      | [t, u] => match P.underlying t, P.underlying u with
        | some (.slice e), some (.slice _) => match elemTy P e, bytesT P e with | some ty, some b => if zeroT P e ty && Nat.blt 0 b then some (.app ty b, c.args.toList) else none | _, _ => none
        | some (.slice e), some (.int _) => match elemTy P e, bytesT P e with | some ty, some b => if zeroT P e ty && Nat.blt 0 b then some (.appz ty b, c.args.toList) else none | _, _ => none
        | some (.slice e), some .string => match elemTy P e, bytesT P e with | some ty, some b => if zeroT P e ty && Nat.blt 0 b then some (.app ty b, c.args.toList) else none | _, _ => none
        | _, _ => none
      | _ => none
    | .builtin .copy => match c.argTypes.toList with
      | [t, u] => match P.underlying t with
        | some (.slice e) => match sizeT P e with | some n => some (.cpy n, c.args.toList) | none => none
        | _ => none
      | _ => none
    | .builtin .min => some (.mini, c.args.toList)
    | .builtin .max => some (.maxi, c.args.toList)
    | .builtin .clear => match c.argTypes.toList with
      | [t] => match P.underlying t with
        | some (.slice e) => match elemTy P e with | some ty => if zeroT P e ty then some (.clr ty, c.args.toList) else none | none => none
        | _ => none
      | _ => none
    | .builtin .cap => match c.argTypes[0]? with
      | some t => match P.underlying t with | some (.slice _) => some (.capv, c.args.toList) | _ => none
      | none => none
    | .builtin .unsafeSliceData => some (.sdata, c.args.toList)
    | .builtin .unsafeString => match c.argTypes.toList with
      | [t, u] => if ustrT P t u then some (.ustr, c.args.toList) else none
      | _ => none
    | .builtin _ => none
  | _ => none

def compGuard (ops : Array Oper) : Option (Nat × Bool) → Option (Option (Nat × Bool))
  | none => some none
  | some (j, want) => match (ops[j]?).bind (·.dst) with
    | some d => some (some (d, want))
    | none => none

def compB (P : Program) (o : Oper) : AOp × List AArg :=
  match compOp P o with
  | some (op, xs) => match compArgs xs with
    | some as => (op, as)
    | none => (.bad, [])
  | none => (.bad, [])

def compOper (P : Program) (ops : Array Oper) (o : Oper) : Option AOper :=
  match compGuard ops o.guard with
  | some g => some ⟨o.dst, g, (compB P o).1, (compB P o).2⟩
  | none => none

def compOpers (P : Program) (ops : Array Oper) : List Oper → Option (List AOper)
  | [] => some []
  | o :: os => match compOper P ops o, compOpers P ops os with
    | some a, some as => some (a :: as)
    | _, _ => none

def edgesOf (o : Oper) : List Nat := o.after.toList.filterMap fun e => if Region.binds .any e then some e.on else none

def bitsOf (l : List Nat) : Nat := l.foldl (fun s i => s ||| 1 <<< i) 0

def without (live : Nat) (i : Nat) : Nat := if live.testBit i then live - (1 <<< i) else live

def liveOper (o : AOper) (live : Nat) : Nat := (match o.dst with | some d => without live d | none => live) ||| bitsOf o.looks

def liveArg : AArg → Nat
  | .tmp i => 1 <<< i
  | .val _ => 0

def readsC : AC → Nat
  | .skip | .exit _ | .ret | .bad => 0
  | .region ops _ => ops.foldl (fun s o => s ||| bitsOf o.looks) 0
  | .seq a b => readsC a ||| readsC b
  | .cnd c a b => liveArg c ||| readsC a ||| readsC b
  | .block _ a => readsC a
  | .loop _ a => readsC a

def exitLive (ex : List (Nat × Nat)) (id : Nat) : Nat := match ex.find? (·.1 == id) with | some p => p.2 | none => 0

def edgesOK : Nat → List (List Nat) → Bool
  | _, [] => true
  | i, es :: r => es.all (fun e => Nat.blt e i) && edgesOK (i + 1) r

def compC (P : Program) (ret : Nat) : Code → (live : Nat) → (ex : List (Nat × Nat)) → Option (AC × Nat)
  | .skip, live, _ => some (.skip, live)
  | .region _ ops draw, live, _ => match compOpers P ops ops.toList with
    | some as => if draw && !edgesOK 0 (ops.toList.map edgesOf) then none else some (.region as (cond draw (some (ops.toList.map edgesOf)) none), as.foldr liveOper live)
    | none => none
  | .seq a b, live, ex => match compC P ret b live ex with
    | some (b', lb) => match compC P ret a lb ex with
      | some (a', la) => some (.seq a' b', la)
      | none => none
    | none => none
  | .cond c a b, live, ex => match compArg c, compC P ret a live ex, compC P ret b live ex with
    | some c', some (a', la), some (b', lb) => some (.cnd c' a' b', liveArg c' ||| la ||| lb)
    | _, _, _ => none
  | .block id a, live, ex => match compC P ret a live ((id, live) :: ex) with
    | some (a', la) => some (.block id a', la)
    | none => none
  | .loop a, live, ex => match compC P ret a 0 ex with
    | some (_, h0) => match compC P ret a h0 ex with
      | some (_, h1) => match compC P ret a h1 ex with
        | some (a', h2) => some (.loop h2 a', h2)
        | none => none
      | none => none
    | none => none
  | .exit id, _, ex => some (.exit id, exitLive ex id)
  | .ret, _, _ => some (.ret, ret)
  | .scope a, live, ex => compC P ret a live ex
  | .label _, live, _ => some (.skip, live)
  | _, _, _ => some (.bad, 0)

def resTmps (P : Program) : List ResultVar → Option (List (Nat × Option (Bool × Nat)))
  | [] => some []
  | .tmp t :: r => match resTmps P r with | some l => some ((t, none) :: l) | none => none
  | .cell a t :: r => match sizeT P t, resTmps P r with | some n, some l => if (P.underlying t).isSome then some ((a, some (aggT P t, n)) :: l) else none | _, _ => none

def compFn (P : Program) (fn : Func) (plain byref : Bool) : Option AFn :=
  match fn.body with
  | some c => if fn.name == "runtime.NumGoroutine" then none else
    match resTmps P fn.results.toList with
    | some rs => match compC P (bitsOf (rs.map (·.1))) c (bitsOf (rs.map (·.1))) [] with
      | some (a, _) => some ⟨fn.ntmps, rs, a, plain, byref, noHd⟩
      | none => none
    | none => none
  | none => none

def fnsOf (P : Program) (kinds : FuncId → Bool × Bool) : FuncId → Option AFn := fun f =>
  match P.funcs[f]? with
  | some fn => compFn P fn (kinds f).1 (kinds f).2
  | none => none

def fnsH (P : Program) (kinds : FuncId → Bool × Bool) (hds : FuncId → Nat → Hd) : FuncId → Option AFn := fun f =>
  match fnsOf P kinds f with
  | some fn => some { fn with hd := hds f }
  | none => none

end Go.Ev
namespace Go.Ev
set_option linter.unusedVariables false
set_option linter.unusedSimpArgs false
set_option linter.unusedSectionVars false
variable [Ctx]

def Does (P : Program) (o : Oper) (ρ : Operand → Value) (w : World) (S : Value → World → Prop) : Prop :=
  ∃ v w', ((execOp ρ o).run P w = .ok (.value v) w' ∨ ((execOp ρ o).run P w = .ok .skip w' ∧ v = undef)) ∧ S v w'

theorem Does.wp {P : Program} {o : Oper} {a : Act} {w : World} {S : Value → World → Prop} {K : Act → World → Prop} {Q : Exit → Act → World → Prop}
    (h : Does P o a.eval w S) (hk : ∀ v w', S v w' → K (a.put o.dst v) w') : o.wp P a w K Q := by
  obtain ⟨v, w', h1, h2⟩ := h
  unfold Oper.wp
  rcases h1 with h1 | ⟨h1, rfl⟩
  · rw [h1, Oper.upon_value]; exact hk v w' h2
  · rw [h1, Oper.upon_skip]; exact hk undef w' h2

theorem compArg_VR {P : Program} {X : Blocks} {β : Map} {N : Nat → Prop} {w : World} : ∀ {x : Operand} {b : AArg} (a : Act) (env : Env), compArg x = some b →
    (∀ i, VR X β N w (env.getD i .top) (a.tmps.getD i undef)) → VR X β N w (rdA env b) (a.eval x) := by
  intro x b a env h henv
  cases x with
  | tmp t => simp [compArg] at h; subst h; exact henv t
  | const v =>
    simp only [compArg, Option.map_eq_some_iff] at h
    obtain ⟨u, h, rfl⟩ := h
    show VR X β N w u v
    have one : ∀ (v : Value) (x : D), ofCell v = some x → VRd X w x v := by
      intro v x h
      unfold ofCell at h
      split at h <;> simp at h <;> subst h <;> first | rfl | exact ⟨_, rfl, rfl⟩
    have many : ∀ (vs : List Value) (xs : List AV), ofCells vs = some xs → VRs X β N w xs vs := by
      intro vs
      induction vs with
      | nil => intro xs h; simp [ofCells] at h; subst h; unfold VRs; trivial
      | cons v vs ih =>
        intro xs h
        simp only [ofCells] at h
        split at h <;> simp at h
        rename_i x1 xs1 h1 h2
        subst h
        unfold VRs
        exact ⟨by unfold VR; exact one v _ h1, ih _ h2⟩
    unfold ofValue at h
    split at h
    · rename_i cs
      simp at h
      obtain ⟨xs, h, rfl⟩ := h
      unfold VR
      exact ⟨cs, rfl, many _ _ h⟩
    · simp at h
      obtain ⟨x, h, rfl⟩ := h
      unfold VR
      exact one v x h
  | func f =>
    simp [compArg] at h
    subst h
    show VR X β N w (.fn f []) (.func (.func f) #[] #[])
    unfold VR
    exact ⟨#[], rfl, by unfold VRs; trivial⟩
  | global g => simp [compArg] at h

theorem compArgs_VR {P : Program} {X : Blocks} {β : Map} {N : Nat → Prop} {w : World} (a : Act) (env : Env) (henv : ∀ i, VR X β N w (env.getD i .top) (a.tmps.getD i undef)) :
    ∀ (xs : List Operand) (bs : List AArg), compArgs xs = some bs → VRs X β N w (bs.map (rdA env)) (xs.map a.eval)
  | [], bs, h => by simp [compArgs] at h; subst h; simp only [List.map_nil]; unfold VRs; trivial
  | x :: xs, bs, h => by
    simp only [compArgs] at h
    split at h <;> simp at h
    rename_i b bs' h1 h2
    subst h
    simp only [List.map_cons]
    unfold VRs
    exact ⟨compArg_VR (P := P) a env h1 henv, compArgs_VR (P := P) a env henv xs bs' h2⟩

theorem VRs.one {X : Blocks} {β : Map} {N : Nat → Prop} {w : World} {a : AV} {xs : List Value} (h : VRs X β N w [a] xs) : ∃ v, xs = [v] ∧ VR X β N w a v := by
  cases xs with
  | nil => unfold VRs at h; exact h.elim
  | cons v vs =>
    unfold VRs at h
    cases vs with
    | nil => exact ⟨v, rfl, h.1⟩
    | cons u us => have := h.2; unfold VRs at this; exact this.elim

theorem VRs.two {X : Blocks} {β : Map} {N : Nat → Prop} {w : World} {a b : AV} {xs : List Value} (h : VRs X β N w [a, b] xs) : ∃ v u, xs = [v, u] ∧ VR X β N w a v ∧ VR X β N w b u := by
  cases xs with
  | nil => unfold VRs at h; exact h.elim
  | cons v vs =>
    unfold VRs at h
    obtain ⟨u, rfl, hu⟩ := VRs.one h.2
    exact ⟨v, u, rfl, h.1, hu⟩

theorem VRs.nil {X : Blocks} {β : Map} {N : Nat → Prop} {w : World} {xs : List Value} (h : VRs X β N w [] xs) : xs = [] := by
  cases xs with
  | nil => rfl
  | cons v vs => unfold VRs at h; exact h.elim

theorem VRs.cons {X : Blocks} {β : Map} {N : Nat → Prop} {w : World} {a : AV} {as : List AV} {xs : List Value} (h : VRs X β N w (a :: as) xs) : ∃ v vs, xs = v :: vs ∧ VR X β N w a v ∧ VRs X β N w as vs := by
  cases xs with
  | nil => unfold VRs at h; exact h.elim
  | cons v vs => unfold VRs at h; exact ⟨v, vs, rfl, h.1, h.2⟩

theorem VR.d_iff {X : Blocks} {β : Map} {N : Nat → Prop} {w : World} {x : D} {v : Value} : VR X β N w (.d x) v ↔ VRd X w x v := by unfold VR; exact Iff.rfl
theorem VR.top_iff {X : Blocks} {β : Map} {N : Nat → Prop} {w : World} {v : Value} : VR X β N w .top v ↔ True := by unfold VR; exact Iff.rfl
theorem VR.agg_iff {X : Blocks} {β : Map} {N : Nat → Prop} {w : World} {cs : List AV} {v : Value} : VR X β N w (.agg cs) v ↔ ∃ vs, v = .agg vs ∧ VRs X β N w cs vs.toList := by unfold VR; exact Iff.rfl
theorem VR.tup_iff {X : Blocks} {β : Map} {N : Nat → Prop} {w : World} {cs : List AV} {v : Value} : VR X β N w (.tup cs) v ↔ ∃ vs, v = .tuple vs ∧ VRs X β N w cs vs.toList := by unfold VR; exact Iff.rfl
theorem VR.fn_iff {X : Blocks} {β : Map} {N : Nat → Prop} {w : World} {f : FuncId} {cs : List AV} {v : Value} : VR X β N w (.fn f cs) v ↔ ∃ vs, v = .func (.func f) #[] vs ∧ VRs X β N w cs vs.toList := by unfold VR; exact Iff.rfl
theorem VR.sr_iff {X : Blocks} {β : Map} {N : Nat → Prop} {w : World} {b off len sz : Nat} {cap : Option Nat} {v : Value} : VR X β N w (.sr b off len sz cap) v ↔ srOK β N w b off len sz cap v := by unfold VR; exact Iff.rfl
theorem VR.ptr_iff {X : Blocks} {β : Map} {N : Nat → Prop} {w : World} {b off : Nat} {v : Value} : VR X β N w (.ptr b off) v ↔ N b ∧ ∃ c, β b = some c ∧ v = .pointer (some ⟨c, off, none⟩) := by unfold VR; exact Iff.rfl
theorem VR.eptr_iff {X : Blocks} {β : Map} {N : Nat → Prop} {w : World} {b i sz off : Nat} {v : Value} : VR X β N w (.eptr b i sz off) v ↔ N b ∧ ∃ c, β b = some c ∧ v = .pointer (some ⟨c, i * sz + off, none⟩) := by unfold VR; exact Iff.rfl
theorem VR.cptr_iff {X : Blocks} {β : Map} {N : Nat → Prop} {w : World} {cs : List D} {off : Nat} {v : Value} : VR X β N w (.cptr cs off) v ↔ cpOK X w cs off v := by unfold VR; exact Iff.rfl

theorem VR.snil_iff {X : Blocks} {β : Map} {N : Nat → Prop} {w : World} {b : Nat} {T : TypeId} {v : Value} : VR X β N w (.snil b T) v ↔ N b ∧ v = .pointer none ∧ ∃ c arr fz, β b = some c ∧ w.heap[c]? = some (.cells arr T fz) := by unfold VR; exact Iff.rfl
theorem VR.ifc_iff {X : Blocks} {β : Map} {N : Nat → Prop} {w : World} {T : TypeId} {v : Value} : VR X β N w (.ifc T) v ↔ ∃ u, v = .iface T u := by unfold VR; exact Iff.rfl

theorem VR.mp_iff {X : Blocks} {β : Map} {N : Nat → Prop} {w : World} {b : Nat} {v : Value} : VR X β N w (.mp b) v ↔ N b ∧ ∃ c, β b = some c ∧ v = .map (some c) := by unfold VR; exact Iff.rfl

theorem VR.oneCell {X : Blocks} {β : Map} {N : Nat → Prop} {w : World} {a : AV} {v : Value} (h : VR X β N w a v) (hc : a.isCell = true) : v.oneCell' = true := by
  cases a with
  | top => simp [AV.isCell] at hc
  | agg _ => simp [AV.isCell] at hc
  | tup _ => simp [AV.isCell] at hc
  | d x => exact VRd.oneCell (VR.d_iff.1 h)
  | sr b off len sz cap =>
    obtain ⟨_, _, h⟩ := VR.sr_iff.1 h
    rcases h with ⟨_, rfl, _⟩ | ⟨c, k, _, rfl, _⟩ <;> rfl
  | ptr b off => obtain ⟨_, c, _, rfl⟩ := VR.ptr_iff.1 h; rfl
  | eptr b i sz off => obtain ⟨_, c, _, rfl⟩ := VR.eptr_iff.1 h; rfl
  | cptr cs off => obtain ⟨c, base, _, _, rfl, _⟩ := VR.cptr_iff.1 h; rfl
  | fn f cs => obtain ⟨vs, rfl, _⟩ := VR.fn_iff.1 h; rfl
  | snil b T => obtain ⟨_, rfl, _⟩ := VR.snil_iff.1 h; rfl
  | ifc T => obtain ⟨u, rfl⟩ := VR.ifc_iff.1 h; rfl
  | mp b => obtain ⟨_, c, _, rfl⟩ := VR.mp_iff.1 h; rfl

section
variable {P : Program} {X : Blocks} {β : Map} {N : Nat → Prop} {w : World} {L : Looks} {al : Nat} {ρ : Operand → Value} {o : Oper}

theorem does_mv {x : Operand} (ho : o.op = .move x ∨ o.op = .assign x) (hS : SimB X β N w L) {a : AV} (ha : VR (All X β L) β N w a (ρ x)) :
    Does P o ρ w (Step X β N w L al L a) := by
  refine ⟨ρ x, w, .inl ?_, Step.same hS ha⟩
  rcases ho with ho | ho <;> simp [execOp, ho]

theorem does_pick {c x y : Operand} (ho : o.op = .pick c x y) (hS : SimB X β N w L) {t : Bool} (hc : ρ c = .bool t) {a b : AV} (ha : VR (All X β L) β N w a (ρ x)) (hb : VR (All X β L) β N w b (ρ y)) :
    Does P o ρ w (Step X β N w L al L (cond t a b)) := by
  refine ⟨if t then ρ x else ρ y, w, .inl ?_, Step.same hS ?_⟩
  · simp [execOp, ho, hc, asBool]
  · cases t
    · exact hb
    · exact ha

theorem cells_VR {a : AV} {v : Value} (h : VR X β N w a v) (hc : a.cells.all AV.isCell = true) : VRs X β N w a.cells v.cells.toList ∧ ∀ u ∈ v.cells.toList, u.oneCell' = true := by
  have key : ∀ (cs : List AV) (us : List Value), VRs X β N w cs us → cs.all AV.isCell = true → ∀ u ∈ us, u.oneCell' = true := by
    intro cs us hv hall u hu
    obtain ⟨j, hj, rfl⟩ := List.mem_iff_getElem.1 hu
    have hlen := VRs.len cs us hv
    have hc := VRs.get cs us hv j cs[j] us[j] (List.getElem?_eq_getElem (by omega)) (List.getElem?_eq_getElem hj)
    exact VR.oneCell hc (by simp at hall; exact hall _ (List.getElem_mem _))
  cases a with
  | agg cs =>
    obtain ⟨vs, rfl, hv⟩ := VR.agg_iff.1 h
    exact ⟨hv, key cs _ hv hc⟩
  | top => simp [AV.cells, AV.isCell] at hc
  | tup _ => simp [AV.cells, AV.isCell] at hc
  | _ =>
    have h1 := VR.oneCell h rfl
    have e : v.cells = #[v] := by cases v <;> first | rfl | simp [Value.oneCell'] at h1
    rw [e]
    simp only [AV.cells]
    refine ⟨?_, by simpa using h1⟩
    unfold VRs
    exact ⟨h, by unfold VRs; trivial⟩

theorem box_new {cs : List AV} {us : Array Value} {e : TypeId} (hS : SimB X β N w L) (hal : ¬ N al) (hv : VRs (All X β L) β N w cs us.toList) (h1 : ∀ u ∈ us.toList, u.oneCell' = true) :
    Step X β N w L al (updL L al (.cells cs)) (.ptr al 0) (.pointer (some ⟨w.heap.size, 0, none⟩)) (w.alloc (.cells us e)) := by
  refine Step.new hS hal (by simp) fun β' N' mv e1 e2 => ⟨⟨w.heap.size, us, e, e1, heap_new _ _, ?_, ?_⟩, ?_⟩
  · have := VRs.len _ _ hv; simpa using this.symm
  · intro j a v ha hv'
    refine ⟨(VRs.get _ _ hv j a v ha (by simpa using hv')).move mv, h1 v ?_⟩
    exact List.mem_of_getElem? (by simpa using hv' : us.toList[j]? = some v)
  · exact VR.ptr_iff.2 ⟨e2, _, e1, rfl⟩

theorem does_box {e : TypeId} {x : Operand} (ho : o.op = .box e x) (hS : SimB X β N w L) (hal : ¬ N al) {a : AV} (ha : VR (All X β L) β N w a (ρ x)) (hc : a.cells.all AV.isCell = true) :
    Does P o ρ w (Step X β N w L al (updL L al (.cells a.cells)) (.ptr al 0)) := by
  obtain ⟨h1, h2⟩ := cells_VR ha hc
  refine ⟨_, _, .inl ?_, box_new (e := e) hS hal h1 h2⟩
  simp [execOp, ho, Instr.box, newVar, newRow]

theorem ofCell_VRd : ∀ (v : Value) (x : D), ofCell v = some x → VRd X w x v := by
  intro v x h
  unfold ofCell at h
  split at h <;> simp at h <;> subst h <;> first | rfl | exact ⟨_, rfl, rfl⟩

theorem ofCells_VRs : ∀ (vs : List Value) (xs : List AV), ofCells vs = some xs → VRs X β N w xs vs ∧ ∀ u ∈ vs, u.oneCell' = true := by
  intro vs
  induction vs with
  | nil => intro xs h; simp [ofCells] at h; subst h; exact ⟨by unfold VRs; trivial, by simp⟩
  | cons v vs ih =>
    intro xs h
    simp only [ofCells] at h
    split at h <;> simp at h
    rename_i x1 xs1 h1 h2
    subst h
    have hd := ofCell_VRd (X := X) (w := w) v _ h1
    refine ⟨?_, ?_⟩
    · unfold VRs
      exact ⟨VR.d_iff.2 hd, (ih _ h2).1⟩
    · intro u hu
      rcases List.mem_cons.1 hu with rfl | hu
      · exact VRd.oneCell hd
      · exact (ih _ h2).2 u hu

theorem zeroAVs_run {e : TypeId} {zs : List AV} (h : zeroAVs P e = some zs) : ∃ i z, P.info? e = some i ∧ i.zero = some z ∧ ofCells z.cells.toList = some zs := by
  unfold zeroAVs at h
  split at h
  · rename_i i hi
    split at h
    · rename_i z hz; exact ⟨i, z, hi, hz, h⟩
    · cases h
  · cases h

theorem does_alloc {e : TypeId} (ho : o.op = .alloc e) (hS : SimB X β N w L) (hal : ¬ N al) {zs : List AV} (hz : zeroAVs P e = some zs) :
    Does P o ρ w (Step X β N w L al (updL L al (.cells zs)) (.ptr al 0)) := by
  obtain ⟨i, z, h1, h2, h3⟩ := zeroAVs_run hz
  obtain ⟨h4, h5⟩ := ofCells_VRs (X := All X β L) (β := β) (N := N) (w := w) _ _ h3
  refine ⟨_, _, .inl ?_, box_new (us := z.cells) (e := e) hS hal h4 h5⟩
  simp [execOp, ho, Instr.alloc, newVar, newRow, zeroValue, typeInfo, h1, h2]

theorem does_nilArr {x : Operand} {t : Ty} (ho : o.op = .assign x) (hx : ρ x = .slice none 0 0) (hS : SimB X β N w L) (hal : ¬ N al) (ht : 0 < t.size) :
    Does P o ρ w (Step X β N w L al (updL L al (.arr t [] true)) (.sr al 0 0 t.size none)) := by
  have hd : L al = .dead := by
    cases hl : L al with
    | dead => rfl
    | _ => exact (hal (hS.dom al (by rw [hl]; simp))).elim
  refine ⟨.slice none 0 0, w, .inl (by simp [execOp, ho, hx]), ?_⟩
  let β' : Map := fun b => if b = al then none else β b
  let N' : Nat → Prop := fun b => N b ∨ b = al
  have hβ : ∀ b, N b → N' b ∧ β' b = β b := fun b hb => ⟨.inl hb, if_neg fun (e : b = al) => hal (e ▸ hb)⟩
  have hne : ∀ b, (updL L al (.arr t [] true) b).live = true → β' b ≠ none → (L b).live = true ∧ β' b = β b ∧ b ≠ al := by
    intro b h1 h2
    by_cases e : b = al
    · exact (h2 (if_pos e)).elim
    · exact ⟨by simpa [updL, e] using h1, if_neg e, e⟩
  have hown : ∀ c, Own β' (updL L al (.arr t [] true)) c → Own β L c := by
    rintro c ⟨b, h1, h2⟩
    obtain ⟨g1, g2, _⟩ := hne b h1 (by rw [h2]; simp)
    exact ⟨b, g1, by rw [← g2]; exact h2⟩
  have hf : Fr (Own β L) w (Own β' (updL L al (.arr t [] true))) w := ⟨rfl, rfl, rfl, Nat.le_refl _, fun c hc h => ⟨fun h' => h (hown c h'), rfl⟩, fun c arr e fz h => ⟨arr, fz, h, rfl⟩⟩
  have mv := mv_of (X := X) hf hβ
  refine ⟨β', N', ⟨fun c h => hS.apart c (hown c h), ?_, ?_, ?_, hS.old, hS.tabs' hf⟩, ?_, hf, hβ, ?_⟩
  · intro b b' c l1 l2 e1 e2
    obtain ⟨g1, g2, _⟩ := hne b l1 (by rw [e1]; simp)
    obtain ⟨k1, k2, _⟩ := hne b' l2 (by rw [e2]; simp)
    exact hS.inj b b' c g1 k1 (by rw [← g2]; exact e1) (by rw [← k2]; exact e2)
  · intro b
    by_cases e : b = al
    · subst e
      rw [show updL L b (.arr t [] true) b = .arr t [] true from if_pos rfl]
      exact ⟨ht, .inl ⟨if_pos rfl, rfl⟩⟩
    · rw [show updL L al (.arr t [] true) b = L b from if_neg e]
      by_cases hl : L b = .dead
      · rw [hl]; trivial
      · exact (hS.box b).move mv (hS.dom b hl) fun _ _ _ => rfl
  · intro b hl
    by_cases e : b = al
    · exact .inr e
    · exact .inl (hS.dom b (by simpa [updL, e] using hl))
  · exact VR.sr_iff.2 ⟨.inr rfl, ht, .inl ⟨if_pos rfl, rfl, rfl, rfl, rfl⟩⟩
  · rintro b (hb | rfl)
    · exact .inl hb
    · exact .inr ⟨Nat.le_refl _, by simp [room], by simp [updL]⟩

theorem does_fld {s f : Nat} {x : Operand} {fs : Array Field} {fd : Field} {n : Nat} (ho : o.op = .fieldAddr s x f) (hu : P.underlying s = some (.struct fs)) (hf : fs[f]? = some fd)
    (hn : sizeT P fd.type = some n) (h0 : n ≠ 0) (hS : SimB X β N w L) {c off : Nat} (hx : ρ x = .pointer (some ⟨c, off, none⟩)) {val : AV} (hv : VR (All X β L) β N w val (.pointer (some ⟨c, off + fd.offset, none⟩))) :
    Does P o ρ w (Step X β N w L al L val) := by
  refine ⟨_, w, .inl ?_, Step.same hS hv⟩
  unfold sizeT at hn
  cases hi : P.info? fd.type with
  | none => simp [hi] at hn
  | some i =>
    have h2 : i.size = n := by simpa [hi] using hn
    have h3 : i.size ≠ 0 := by omega
    simp [execOp, ho, hx, Instr.fieldAt, run_underlying hu, hf, Instr.sureAddr, fieldPlace, sizeOf, typeInfo, hi, h3, Addr.add_mid]

theorem does_chk {x : Operand} (ho : o.op = .nilCheck x) (hS : SimB X β N w L) {a : AV} (ha : VR (All X β L) β N w a (ρ x)) (hk : ∃ q, ρ x = .pointer (some q) ∨ ∃ f cs, ρ x = .func (.func f) #[] cs) :
    Does P o ρ w (Step X β N w L al L a) := by
  refine ⟨ρ x, w, .inl ?_, Step.same hS ha⟩
  obtain ⟨q, hq | ⟨f, cs, hq⟩⟩ := hk <;> simp [execOp, ho, hq]

theorem does_ext {x : Operand} {i : Nat} (ho : o.op = .extract x i) (hS : SimB X β N w L) {vs : List AV} {a : AV} (hx : VR (All X β L) β N w (.tup vs) (ρ x)) (hi : vs[i]? = some a) :
    Does P o ρ w (Step X β N w L al L a) := by
  obtain ⟨us, hu, hv⟩ := VR.tup_iff.1 hx
  have hl := VRs.len _ _ hv
  have hlt : i < vs.length := (List.getElem?_eq_some_iff.1 hi).1
  have hg : us[i]? = some us[i] := Array.getElem?_eq_getElem (by simp at hl; omega)
  refine ⟨us[i]'(by simp at hl; omega), w, .inl ?_, Step.same hS (VRs.get _ _ hv i a _ hi (by simp))⟩
  simp [execOp, ho, hu, Instr.extract, hg]

end

end Go.Ev
namespace Go.Ev
set_option linter.unusedVariables false
set_option linter.unusedSimpArgs false
set_option linter.unusedSectionVars false
variable [Ctx]
section
variable {P : Program} {X : Blocks} {β : Map} {N : Nat → Prop} {w : World} {L : Looks} {al : Nat} {ρ : Operand → Value} {o : Oper}

theorem cell_of_arr {c j : Nat} {arr : Array Value} {e : TypeId} {fz : Nat × Nat} (h : w.heap[c]? = some (.cells arr e fz)) : w.cell? ⟨c, j, none⟩ = arr[j]? := by
  simp [World.cell?, h]

theorem encVR {Y : Blocks} {t : Ty} {x : t.den} {g : Nat → Option Value} (h : RD Y w t x g) (j : Nat) (a : AV) (ha : ((encC t x).map AV.d)[j]? = some a) :
    ∃ v, g j = some v ∧ VR Y β N w a v ∧ v.oneCell' = true := by
  simp only [List.getElem?_map, Option.map_eq_some_iff] at ha
  obtain ⟨d, hd, rfl⟩ := ha
  obtain ⟨v, hv, hr⟩ := RD.cells h j d hd
  exact ⟨v, hv, VR.d_iff.2 hr, VRd.oneCell hr⟩

theorem cellsAt_sound {B : Boxes} {p : AV} {n : Nat} {cs : List AV} {rs : List Nat} {v : Value} (hr : (cellsAt B p n).run = some (cs, rs)) (hS : SimB X β N w (look B))
    (hv : VR (All X β (look B)) β N w p v) :
    ∃ c off, v = .pointer (some ⟨c, off, none⟩) ∧ cs.length = n ∧ ∀ j a, cs[j]? = some a → ∃ u, w.cell? ⟨c, off + j, none⟩ = some u ∧ VR (All X β (look B)) β N w a u ∧ u.oneCell' = true := by
  unfold cellsAt at hr
  split at hr
  · rename_i b off
    obtain ⟨hN, c, hc, rfl⟩ := VR.ptr_iff.1 hv
    split at hr
    · rename_i l hl
      rw [M.run_ifb] at hr
      obtain ⟨hle, hr⟩ := hr
      simp [M.run] at hr
      obtain ⟨rfl, rfl⟩ := hr
      have hle' := Nat.le_of_ble_eq_true hle
      have hb := hS.box b
      rw [hl] at hb
      obtain ⟨c', arr, e, h1, h2, h3, h4⟩ := hb
      rw [hc] at h1; cases h1
      refine ⟨c, off, rfl, by simp; omega, fun j a ha => ?_⟩
      have hj : j < n := by
        have := (List.getElem?_eq_some_iff.1 ha).1; simp at this; omega
      rw [List.getElem?_take, if_pos hj, List.getElem?_drop] at ha
      have hlt := (List.getElem?_eq_some_iff.1 ha).1
      have hg : arr[off + j]? = some arr[off + j] := Array.getElem?_eq_getElem (by omega)
      exact ⟨_, by rw [cell_of_arr h2]; exact hg, h4 _ a _ ha hg⟩
    · simp [M.run] at hr
  · rename_i b i sz off
    obtain ⟨hN, c, hc, rfl⟩ := VR.eptr_iff.1 hv
    split at hr
    · rename_i t l q hl
      rw [M.run_ifb] at hr
      obtain ⟨hle, hr⟩ := hr
      rw [M.run_chk] at hr
      obtain ⟨hi, hr⟩ := hr
      simp [M.run] at hr
      obtain ⟨rfl, rfl⟩ := hr
      simp only [Bool.and_eq_true, beq_iff_eq] at hle
      obtain ⟨rfl, hle⟩ := hle
      have hle' := Nat.le_of_ble_eq_true hle
      have hi' : i < l.length := by simpa using hi
      have hb := hS.box b
      rw [hl] at hb
      obtain ⟨h0, hb⟩ := hb
      rcases hb with ⟨g1, _⟩ | ⟨c', arr, e, h1, h2, h3, h4, h5⟩
      · rw [hc] at g1; cases g1
      · rw [hc] at h1; cases h1
        refine ⟨c, _, rfl, by simp [encC_length]; omega, fun j a ha => ?_⟩
        rw [← List.map_drop, ← List.map_take] at ha
        have hj : j < n := by
          have := (List.getElem?_eq_some_iff.1 ha).1; simp at this; omega
        have hg : l[i]?.getD t.dflt = l[i] := by simp [List.getElem?_eq_getElem hi']
        rw [hg] at ha
        have ha' : ((encC t l[i]).map AV.d)[off + j]? = some a := by
          rw [List.getElem?_map] at ha ⊢
          rw [List.getElem?_take, if_pos hj, List.getElem?_drop] at ha
          exact ha
        obtain ⟨v, hv, hr⟩ := encVR (h5 i hi') _ a ha'
        refine ⟨v, ?_, hr⟩
        rw [cell_of_arr h2, Nat.add_assoc]
        exact hv
    · simp [M.run] at hr
  · rename_i ds off
    obtain ⟨c, base, hlt, hx, rfl, hcs⟩ := VR.cptr_iff.1 hv
    rw [M.run_ifb] at hr
    obtain ⟨hle, hr⟩ := hr
    simp [M.run] at hr
    obtain ⟨rfl, rfl⟩ := hr
    have hle' := Nat.le_of_ble_eq_true hle
    refine ⟨c, base + off, rfl, by simp; omega, fun j a ha => ?_⟩
    rw [← List.map_drop, ← List.map_take] at ha
    have hj : j < n := by
      have := (List.getElem?_eq_some_iff.1 ha).1; simp at this; omega
    rw [List.getElem?_map, List.getElem?_take, if_pos hj, List.getElem?_drop, Option.map_eq_some_iff] at ha
    obtain ⟨d, hd, rfl⟩ := ha
    obtain ⟨u, hu, hr⟩ := hcs _ d hd
    exact ⟨u, by rw [Nat.add_assoc]; exact hu, VR.d_iff.2 hr, VRd.oneCell hr⟩
  · simp [M.run] at hr

theorem rows_of {Y : Blocks} {c off : Nat} : ∀ (cs : List AV), (∀ j a, cs[j]? = some a → ∃ u, w.cell? ⟨c, off + j, none⟩ = some u ∧ VR Y β N w a u ∧ u.oneCell' = true) →
    ∃ us : List Value, us.length = cs.length ∧ VRs Y β N w cs us ∧ (∀ u ∈ us, u.oneCell' = true) ∧ ∀ j u, us[j]? = some u → w.cell? ⟨c, off + j, none⟩ = some u
  | [], _ => ⟨[], rfl, by unfold VRs; trivial, by simp, by simp⟩
  | a :: cs, h => by
    obtain ⟨u, h1, h2, h3⟩ := h 0 a rfl
    obtain ⟨us, g1, g2, g3, g4⟩ := rows_of (off := off + 1) cs fun j a ha => by
      have := h (j + 1) a (by simpa using ha)
      rwa [show off + (j + 1) = off + 1 + j by omega] at this
    refine ⟨u :: us, by simp [g1], ?_, ?_, ?_⟩
    · unfold VRs; exact ⟨h2, g2⟩
    · intro x hx
      rcases List.mem_cons.1 hx with rfl | hx
      · exact h3
      · exact g3 x hx
    · intro j x hx
      cases j with
      | zero => simp at hx; subst hx; exact h1
      | succ j =>
        have := g4 j x (by simpa using hx)
        rwa [show off + (j + 1) = off + 1 + j by omega]

theorem sizeT_info {t : TypeId} {n : Nat} (h : sizeT P t = some n) : ∃ i, P.info? t = some i ∧ i.size = n := by
  unfold sizeT at h
  cases hi : P.info? t with
  | none => simp [hi] at h
  | some i => exact ⟨i, rfl, by simpa [hi] using h⟩

theorem run_isAgg {t : TypeId} (h : (P.underlying t).isSome = true) : (isAgg t).run P w = .ok (aggT P t) w := by
  unfold isAgg aggT
  cases hu : P.underlying t with
  | none => simp [hu] at h
  | some d =>
    rw [Sem.run_bind, run_underlying hu w]
    cases d <;> rfl

theorem run_loadVar_any {t : TypeId} {n c off : Nat} (hu : (P.underlying t).isSome = true) (hn : sizeT P t = some n) {us : List Value} (hl : us.length = n) (hc : ∀ j u, us[j]? = some u → w.cell? ⟨c, off + j, none⟩ = some u)
    (hone : aggT P t = false → n = 1) :
    (loadVar t ⟨c, off, none⟩).run P w = .ok (if aggT P t then .agg us.toArray else us.headD undef) w := by
  obtain ⟨i, hi, rfl⟩ := sizeT_info hn
  unfold loadVar
  rw [Sem.run_bind, run_isAgg hu]
  simp only [Result.andThen_ok]
  cases ha : aggT P t with
  | true =>
    have hrun : (loadCells ⟨c, off, none⟩ us.length).run P w = .ok us.toArray w := run_loadCells_list (P := P) w ⟨c, off, none⟩ us (fun j v hv => by rw [Addr.add_mid]; exact hc j v hv)
    simp [Sem.run_bind, sizeOf, typeInfo, hi, ← hl, hrun]
  | false =>
    have := hone ha
    cases us with
    | nil => simp at hl; omega
    | cons u us =>
      have h0 := hc 0 u rfl
      simp at h0
      simp [run_load, h0]

theorem does_load {B : Boxes} {t : TypeId} {x : Operand} {n : Nat} (ho : o.op = .load t x) (hu : (P.underlying t).isSome = true) (hn : sizeT P t = some n) (hS : SimB X β N w (look B)) {p : AV}
    (hx : VR (All X β (look B)) β N w p (ρ x)) {cs : List AV} {rs : List Nat} (hr : (cellsAt B p n).run = some (cs, rs)) {val : AV}
    (hval : (aggT P t = true ∧ val = .agg cs) ∨ (aggT P t = false ∧ cs = [val])) :
    Does P o ρ w (Step X β N w (look B) al (look B) val) := by
  obtain ⟨c, off, hp, hl, hc⟩ := cellsAt_sound hr hS hx
  obtain ⟨us, g1, g2, g3, g4⟩ := rows_of cs hc
  refine ⟨if aggT P t then .agg us.toArray else us.headD undef, w, .inl ?_, Step.same hS ?_⟩
  · have := run_loadVar_any (P := P) hu hn (g1.trans hl) g4 (fun ha => hval.elim (fun h => by rw [ha] at h; exact absurd h.1 (by simp)) (fun h => by rw [h.2] at hl; simpa using hl.symm))
    simp [execOp, ho, Instr.loadAt, hp, Instr.sureAddr, Sem.run_bind, this]
  · rcases hval with ⟨ha, rfl⟩ | ⟨ha, rfl⟩
    · rw [if_pos ha]; exact VR.agg_iff.2 ⟨_, rfl, g2⟩
    · rw [if_neg (by simp [ha])]
      obtain ⟨u, rfl, hu⟩ := VRs.one g2
      exact hu

theorem setCells_heap (c : Nat) (t : TypeId) : ∀ (vs : List Value) (off : Nat) (w : World) (arr : Array Value), w.heap[c]? = some (.cells arr t (0, 0)) → off + vs.length ≤ arr.size →
    ∃ arr', (w.setCells c off vs).heap[c]? = some (.cells arr' t (0, 0)) ∧ arr'.size = arr.size ∧ (∀ j, j < off → arr'[j]? = arr[j]?) ∧ (∀ j u, vs[j]? = some u → arr'[off + j]? = some u) ∧ (∀ j, off + vs.length ≤ j → arr'[j]? = arr[j]?)
  | [], off, w, arr, h, hl => ⟨arr, h, rfl, fun _ _ => rfl, by simp, fun _ _ => rfl⟩
  | v :: vs, off, w, arr, h, hl => by
    have h1 := heap_setCell_same w c off arr t v h
    obtain ⟨arr', g1, g2, g3, g4, g5⟩ := setCells_heap c t vs (off + 1) (w.setCell ⟨c, off, none⟩ v) (arr.setIfInBounds off v) h1 (by simp at hl ⊢; omega)
    refine ⟨arr', g1, by simpa using g2, fun j hj => ?_, fun j u hu => ?_, fun j hj => ?_⟩
    · rw [g3 j (by omega), Array.getElem?_setIfInBounds, if_neg (by omega)]
    · cases j with
      | zero =>
        simp at hu; subst hu
        simp at hl
        rw [Nat.add_zero, g3 off (by omega), Array.getElem?_setIfInBounds, if_pos rfl, if_pos (by omega)]
      | succ j =>
        have := g4 j u (by simpa using hu)
        rwa [show off + (j + 1) = off + 1 + j by omega]
    · rw [g5 j (by simp at hj; omega), Array.getElem?_setIfInBounds, if_neg (by simp at hj; omega)]

theorem setCells_other (c k : Nat) (h : k ≠ c) : ∀ (vs : List Value) (off : Nat) (w : World), (w.setCells c off vs).heap[k]? = w.heap[k]?
  | [], _, _ => rfl
  | v :: vs, off, w => by
    show ((w.setCell ⟨c, off, none⟩ v).setCells c (off + 1) vs).heap[k]? = _
    rw [setCells_other c k h vs (off + 1), heap_setCell_other w ⟨c, off, none⟩ k v h]

theorem setCells_rest (c : Nat) : ∀ (vs : List Value) (off : Nat) (w : World), (w.setCells c off vs).heap.size = w.heap.size ∧ (w.setCells c off vs).os = w.os ∧ (w.setCells c off vs).tape = w.tape ∧ (w.setCells c off vs).output = w.output
  | [], _, _ => ⟨rfl, rfl, rfl, rfl⟩
  | v :: vs, off, w => by
    obtain ⟨a, b, d, e⟩ := setCells_rest c vs (off + 1) (w.setCell ⟨c, off, none⟩ v)
    refine ⟨a.trans ?_, b.trans rfl, d.trans rfl, e.trans rfl⟩
    simp [World.setCell]

theorem run_store_any {t : TypeId} {n c off : Nat} {arr : Array Value} {e : TypeId} (hn : sizeT P t = some n) {v : Value} (hl : v.cells.size = n) (h1 : ∀ u ∈ v.cells.toList, u.oneCell' = true)
    (ha : w.heap[c]? = some (.cells arr e (0, 0))) (hb : off + n ≤ arr.size) :
    (Instr.storeAt t (.pointer (some ⟨c, off, none⟩)) v).run P w = .ok () (w.setCells c off v.cells.toList) := by
  obtain ⟨i, hi, rfl⟩ := sizeT_info hn
  have := run_storeCells_cells (P := P) c off v.cells.toList 0 w
    (fun j hj => by
      rw [cell_of_arr ha]
      simp at hj ⊢
      omega)
    (fun j hj => by simp [World.frozen?, ha]) h1
  simp at this
  simp [Instr.storeAt, Instr.sureAddr, storeVar, sizeOf, typeInfo, hi, hl, this]

theorem splice_get {α : Type} (l xs : List α) (off j : Nat) (h : off + xs.length ≤ l.length) :
    (splice l off xs)[j]? = if j < off then l[j]? else if j < off + xs.length then xs[j - off]? else l[j]? := by
  unfold splice
  rw [List.append_assoc, List.getElem?_append, List.length_take, Nat.min_eq_left (by omega)]
  split
  · rename_i h1; rw [List.getElem?_take, if_pos h1]
  · rename_i h1
    rw [List.getElem?_append]
    split
    · rename_i h2; rw [if_pos (by omega)]
    · rename_i h2
      rw [if_neg (by omega), List.getElem?_drop]
      congr 1
      omega

theorem splice_length {α : Type} (l xs : List α) (off : Nat) (h : off + xs.length ≤ l.length) : (splice l off xs).length = l.length := by
  unfold splice
  simp
  omega

theorem does_store_ptr {t : TypeId} {x y : Operand} {n b off : Nat} {l : List AV} {val : AV} (ho : o.op = .store t x y) (hn : sizeT P t = some n) (hS : SimB X β N w L)
    (hx : VR (All X β L) β N w (.ptr b off) (ρ x)) (hL : L b = .cells l) (hv : VR (All X β L) β N w val (ρ y)) (hc : val.cells.all AV.isCell = true) (hlen : val.cells.length = n) (hle : off + n ≤ l.length) :
    Does P o ρ w (Step X β N w L al (updL L b (.cells (splice l off val.cells))) .top) := by
  obtain ⟨hN, c, hβ, hp⟩ := VR.ptr_iff.1 hx
  obtain ⟨h1, h2⟩ := cells_VR hv hc
  have hbx := hS.box b
  rw [hL] at hbx
  obtain ⟨c', arr, e, g1, g2, g3, g4⟩ := hbx
  rw [hβ] at g1; cases g1
  have hsz : (ρ y).cells.size = n := by have := VRs.len _ _ h1; simp at this; omega
  obtain ⟨arr', k1, k2, k3, k4, k5⟩ := setCells_heap c e (ρ y).cells.toList off w arr g2 (by simp; omega)
  obtain ⟨r1, r2, r3, r4⟩ := setCells_rest c (ρ y).cells.toList off w
  refine ⟨undef, w.setCells c off (ρ y).cells.toList, .inr ⟨?_, rfl⟩, ?_⟩
  · have hrun := run_store_any (P := P) (off := off) hn hsz h2 g2 (by omega)
    simp [execOp, ho, hp, Sem.run_bind, hrun]
  · refine Step.put hS (by rw [hL]; rfl) rfl hβ g2 k1 k2 r1 r2 r3 r4 (fun k hk => setCells_other c k hk _ _ _) fun mv => ⟨⟨c, arr', e, hβ, k1, ?_, ?_⟩, VR.top_iff.2 trivial⟩
    · rw [k2, splice_length _ _ _ (by omega)]; exact g3
    · intro j a v ha hv'
      rw [splice_get _ _ _ _ (by omega)] at ha
      split at ha
      · rename_i hj
        rw [k3 j hj] at hv'
        exact ⟨(g4 j a v ha hv').1.move mv, (g4 j a v ha hv').2⟩
      · rename_i hj
        split at ha
        · rename_i hj2
          have hj3 : j - off < (ρ y).cells.toList.length := by simp; omega
          have hu : (ρ y).cells.toList[j - off]? = some ((ρ y).cells.toList[j - off]) := List.getElem?_eq_getElem hj3
          have := k4 (j - off) _ hu
          rw [show off + (j - off) = j by omega] at this
          rw [this] at hv'
          cases hv'
          exact ⟨(VRs.get _ _ h1 _ a _ ha hu).move mv, h2 _ (List.getElem_mem _)⟩
        · rename_i hj2
          rw [k5 j (by simp; omega)] at hv'
          exact ⟨(g4 j a v ha hv').1.move mv, (g4 j a v ha hv').2⟩

end
end Go.Ev
namespace Go.Ev
set_option linter.unusedVariables false
set_option linter.unusedSimpArgs false
set_option linter.unusedSectionVars false
variable [Ctx]
section
variable {P : Program} {X : Blocks} {β : Map} {N : Nat → Prop} {w : World} {L : Looks} {al : Nat} {ρ : Operand → Value} {o : Oper}

theorem VRd.int_iff {Y : Blocks} {k : IntKind} {n : Int} {v : Value} : VRd Y w (.int k n) v ↔ v = .int k n := Iff.rfl
theorem VRd.bool_iff {Y : Blocks} {b : Bool} {v : Value} : VRd Y w (.bool b) v ↔ v = .bool b := Iff.rfl

theorem does_elm_sl {t x i : Nat} {xo io : Operand} {e : TypeId} (ho : o.op = .indexAddr t xo io) (hu : P.underlying t = some (.slice e)) {ty : Ty} (hn : sizeT P e = some ty.size) (hS : SimB X β N w L)
    {l : List ty.den} {k : IntKind} {n : Int} (hx : VR (All X β L) β N w (.d (.sl ty l)) (ρ xo)) (hi : ρ io = .int k n) (h0 : 0 ≤ n) (h1 : n < (l.length : Int)) :
    Does P o ρ w (Step X β N w L al L (.cptr (encC ty (l.getD n.toNat ty.dflt)) 0)) := by
  obtain ⟨inf, hinf, hsz⟩ := sizeT_info hn
  have hr : RD (All X β L) w (.sl ty) l (fun _ => some (ρ xo)) := VR.d_iff.1 hx
  obtain ⟨v, e1, h⟩ := RD.slice hr
  cases e1
  have hlt : n.toNat < l.length := by omega
  rcases h with ⟨_, _, _, _, rfl⟩ | ⟨c, off, cap, hv, hc, hb, hX, hl⟩
  · simp at hlt
  · refine ⟨.pointer (some ⟨c, off + n.toNat * ty.size, none⟩), w, .inl ?_, Step.same hS (VR.cptr_iff.2 ⟨c, off + n.toNat * ty.size, hb, hX, by simp, fun j d hd => ?_⟩)⟩
    · simp [execOp, ho, hv, hi, Instr.indexAt, asIntOf, run_underlying hu, sizeOf, typeInfo, hinf, h0, h1, hsz, Addr.add_mid]
    · have hg : l.getD n.toNat ty.dflt = l[n.toNat] := by simp [List.getD_eq_getElem?_getD, List.getElem?_eq_getElem hlt]
      rw [hg] at hd
      obtain ⟨u, hu, hr⟩ := RD.cells (hl n.toNat hlt) j d hd
      exact ⟨u, hu, hr⟩

theorem does_elm_sr {t : TypeId} {xo io : Operand} {e : TypeId} (ho : o.op = .indexAddr t xo io) (hu : P.underlying t = some (.slice e)) {b off len sz : Nat} {cap : Option Nat} (hn : sizeT P e = some sz) (hS : SimB X β N w L)
    {k : IntKind} {n : Int} (hx : VR (All X β L) β N w (.sr b off len sz cap) (ρ xo)) (hi : ρ io = .int k n) (h0 : 0 ≤ n) (h1 : n < (len : Int)) :
    Does P o ρ w (Step X β N w L al L (.eptr b (off + n.toNat) sz 0)) := by
  obtain ⟨inf, hinf, hsz⟩ := sizeT_info hn
  obtain ⟨hN, hs, h⟩ := VR.sr_iff.1 hx
  rcases h with ⟨_, _, _, rfl, _⟩ | ⟨c, kk, hc, hv, hle, hk, arr, e', fz, ha, hb⟩
  · simp at h1; omega
  · refine ⟨.pointer (some ⟨c, off * sz + n.toNat * sz, none⟩), w, .inl ?_, Step.same hS (VR.eptr_iff.2 ⟨hN, c, hc, by rw [Nat.add_mul]; simp⟩)⟩
    simp [execOp, ho, hv, hi, Instr.indexAt, asIntOf, run_underlying hu, sizeOf, typeInfo, hinf, h0, h1, hsz, Addr.add_mid]

theorem does_chr {t : TypeId} {xo io : Operand} (ho : o.op = .index t xo io) (hu : P.underlying t = some .string) (hS : SimB X β N w L) {l : List UInt8} {k : IntKind} {n : Int}
    (hx : VR (All X β L) β N w (.d (.str l)) (ρ xo)) (hi : ρ io = .int k n) (h0 : 0 ≤ n) (h1 : n < (l.length : Int)) :
    Does P o ρ w (Step X β N w L al L (.d (.int .u8 ((l.getD n.toNat 0).toNat : Nat)))) := by
  obtain ⟨s, hs, rfl⟩ := VR.d_iff.1 hx
  have hlt : n.toNat < s.data.toList.length := by omega
  have hlt' : n.toNat < s.size := by simpa using hlt
  refine ⟨.int .u8 ((s.data.toList.getD n.toNat 0).toNat : Nat), w, .inl ?_, Step.same hS (VR.d_iff.2 rfl)⟩
  have hg : s[n.toNat]? = some s[n.toNat] := by simp [hlt']
  have hg2 : s.data.toList.getD n.toNat 0 = s[n.toNat] := by
    rw [List.getD_eq_getElem?_getD, List.getElem?_eq_getElem hlt]
    rfl
  simp [execOp, ho, hs, hi, Instr.index, asIntOf, run_underlying hu, h0, hg]
  rw [show s.data[n.toNat]?.getD 0 = s[n.toNat] by simpa [List.getD_eq_getElem?_getD] using hg2]

theorem does_len {c : Call} {t : TypeId} {xo : Operand} (ho : o.op = .call c) (hcal : c.callee = .builtin .len) (ha : c.args.toList = [xo]) (ht : c.argTypes[0]? = some t)
    (hu : (∃ e, P.underlying t = some (.slice e)) ∨ P.underlying t = some .string) (hS : SimB X β N w L) {a : AV} {n : Nat} (hx : VR (All X β L) β N w a (ρ xo))
    (hn : (P.underlying t = some .string ∧ ∃ l, a = .d (.str l) ∧ n = l.length) ∨ ((∃ e, P.underlying t = some (.slice e)) ∧ ∃ q k, ρ xo = .slice q n k)) :
    Does P o ρ w (Step X β N w L al L (.d (.int .i64 (n : Nat)))) := by
  have ha' : c.args = #[xo] := by rw [← Array.toArray_toList (xs := c.args), ha]
  refine ⟨.int .i64 (n : Nat), w, .inl ?_, Step.same hS (VR.d_iff.2 rfl)⟩
  rcases hn with ⟨hu, l, rfl, rfl⟩ | ⟨⟨e, hu⟩, q, k, hq⟩
  · obtain ⟨s, hs, rfl⟩ := VR.d_iff.1 hx
    simp [execOp, ho, resolve, hcal, ha', invoke, builtin, Builtin.len_, ht, hs, run_underlying hu, goInt]
  · simp [execOp, ho, resolve, hcal, ha', invoke, builtin, Builtin.len_, ht, hq, run_underlying hu, goInt]

theorem run_eqGuard_int (op : BinOp) (t : TypeId) (x y : Operand) (a b : Value) (h : (∀ cs, a ≠ .agg cs) ∧ a ≠ .nilIface) : (eqGuard op t x y a b).run P w = .ok () w := by
  cases a <;> first | exact absurd rfl h.2 | exact absurd rfl (h.1 _) | (cases op <;> rfl)

theorem does_bin_int {op : BinOp} {t yt : TypeId} {xo yo : Operand} (ho : o.op = .binOp op t xo yo yt) (hS : SimB X β N w L) {k : IntKind} {m n : Int} (hx : ρ xo = .int k m) (hy : ρ yo = .int k n)
    (hsh : op ≠ .shl ∧ op ≠ .shr) {r : D} (hr : (aInt op k m n).run = some r) : Does P o ρ w (Step X β N w L al L (.d r)) := by
  have hg := run_eqGuard_int (P := P) (w := w) op t xo yo (.int k m) (.int k n) ⟨by simp, by simp⟩
  cases op <;> simp only [aInt, M.run, M.run_chk, Option.some.injEq, Bool.not_eq_true', decide_eq_false_iff_not] at hr <;> first
    | (exfalso; exact hsh.1 rfl)
    | (exfalso; exact hsh.2 rfl)
    | (subst hr; refine ⟨_, w, .inl ?_, Step.same hS (VR.d_iff.2 rfl)⟩; simp [execOp, ho, hx, hy, Sem.run_bind, hg, Go.binOp, Op.intArith, Op.intDiv, Op.intBits, Op.intCmp]; done)
    | (obtain ⟨h0, rfl⟩ := hr; refine ⟨_, w, .inl ?_, Step.same hS (VR.d_iff.2 rfl)⟩; simp [execOp, ho, hx, hy, Sem.run_bind, hg, Go.binOp, Op.intArith, Op.intDiv, Op.intBits, Op.intCmp, h0]; done)

theorem does_bin_shift {op : BinOp} {t yt : TypeId} {xo yo : Operand} (ho : o.op = .binOp op t xo yo yt) (hS : SimB X β N w L) {k k' : IntKind} {m n : Int} (hx : ρ xo = .int k m) (hy : ρ yo = .int k' n)
    {r : D} (hr : (aShift op k m n).run = some r) : Does P o ρ w (Step X β N w L al L (.d r)) := by
  have hg := run_eqGuard_int (P := P) (w := w) op t xo yo (.int k m) (.int k' n) ⟨by simp, by simp⟩
  cases op <;> simp only [aShift, M.run, M.run_chk, Option.some.injEq, decide_eq_true_eq, reduceCtorEq] at hr
  · obtain ⟨h0, rfl⟩ := hr
    have h0' : ¬ n < 0 := by omega
    refine ⟨_, w, .inl ?_, Step.same hS (VR.d_iff.2 rfl)⟩
    simp [execOp, ho, hx, hy, Sem.run_bind, hg, Go.binOp, Op.shift, h0']
  · obtain ⟨h0, rfl⟩ := hr
    have h0' : ¬ n < 0 := by omega
    refine ⟨_, w, .inl ?_, Step.same hS (VR.d_iff.2 rfl)⟩
    simp [execOp, ho, hx, hy, Sem.run_bind, hg, Go.binOp, Op.shift, h0']

theorem ba_toList (s : ByteArray) : s.toList = s.data.toList := by
  have loop : ∀ (d i : Nat) (acc : List UInt8), s.size - i = d → ByteArray.toList.loop s i acc = acc.reverse ++ s.data.toList.drop i := by
    intro d
    induction d with
    | zero =>
      intro i acc hd
      unfold ByteArray.toList.loop
      rw [if_neg (by omega), List.drop_eq_nil_of_le (by simp; exact Nat.le_of_sub_eq_zero hd)]
      simp
    | succ d ih =>
      intro i acc hd
      unfold ByteArray.toList.loop
      have hi : i < s.size := by omega
      rw [if_pos hi, ih (i + 1) _ (by omega)]
      have : s.data.toList.drop i = s.get! i :: s.data.toList.drop (i + 1) := by
        rw [List.drop_eq_getElem_cons (by simpa using hi)]
        congr 1
        simp [ByteArray.get!, Array.getElem!_eq_getD, Array.getD, hi]
      rw [this]
      simp
  have := loop s.size 0 [] (by omega)
  simpa [ByteArray.toList] using this

theorem ba_append (a b : ByteArray) : (a ++ b).data.toList = a.data.toList ++ b.data.toList := by
  rw [ByteArray.data_append]
  simp

theorem does_bin_str {op : BinOp} {t yt : TypeId} {xo yo : Operand} (ho : o.op = .binOp op t xo yo yt) (hS : SimB X β N w L) {l m : List UInt8} (hx : VR (All X β L) β N w (.d (.str l)) (ρ xo)) (hy : VR (All X β L) β N w (.d (.str m)) (ρ yo))
    {r : D} (hr : (aStr op l m).run = some r) : Does P o ρ w (Step X β N w L al L (.d r)) := by
  obtain ⟨a, ha, rfl⟩ := VR.d_iff.1 hx
  obtain ⟨b, hb, rfl⟩ := VR.d_iff.1 hy
  have hg := run_eqGuard_int (P := P) (w := w) op t xo yo (.string a) (.string b) ⟨by simp, by simp⟩
  cases op <;> simp only [aStr, M.run, M.run_chk, Option.some.injEq, decide_eq_true_eq, reduceCtorEq] at hr
  case add =>
    obtain ⟨h0, rfl⟩ := hr
    refine ⟨.string (a ++ b), w, .inl ?_, Step.same hS (VR.d_iff.2 ⟨_, rfl, ba_append a b⟩)⟩
    have h1 : (a.size : Int) + (b.size : Int) ≤ 9223372036854775807 := by
      have : a.size + b.size ≤ 4611686018427387904 := by simpa using h0
      omega
    simp [execOp, ho, ha, hb, Sem.run_bind, hg, Go.binOp, Op.stringOp, h1]
  all_goals
    subst hr
    refine ⟨_, w, .inl ?_, Step.same hS (VR.d_iff.2 rfl)⟩
    simp [execOp, ho, ha, hb, Sem.run_bind, hg, Go.binOp, Op.stringOp, ba_toList]

end
end Go.Ev
namespace Go.Ev
set_option linter.unusedVariables false
set_option linter.unusedSimpArgs false
set_option linter.unusedSectionVars false
variable [Ctx]
section
variable {P : Program} {X : Blocks} {β : Map} {N : Nat → Prop} {w : World} {L : Looks} {al : Nat} {ρ : Operand → Value} {o : Oper}

theorem does_un {op : UnOp} {t : TypeId} {xo : Operand} (ho : o.op = .unOp op t xo) (hS : SimB X β N w L) {a r : AV} (hx : VR (All X β L) β N w a (ρ xo)) (hr : (aUn op a).run = some r) :
    Does P o ρ w (Step X β N w L al L r) := by
  unfold aUn at hr
  split at hr <;> simp [M.run] at hr <;> subst hr
  · have hx' := VR.d_iff.1 hx
    refine ⟨_, w, .inl ?_, Step.same hS (VR.d_iff.2 rfl)⟩
    simp [execOp, ho, VRd.int_iff.1 hx', Op.unary, Op.intArith]
  · have hx' := VR.d_iff.1 hx
    refine ⟨_, w, .inl ?_, Step.same hS (VR.d_iff.2 rfl)⟩
    simp [execOp, ho, VRd.int_iff.1 hx', Op.unary, Op.intBits]
  · have hx' := VR.d_iff.1 hx
    refine ⟨_, w, .inl ?_, Step.same hS (VR.d_iff.2 rfl)⟩
    simp [execOp, ho, VRd.bool_iff.1 hx', Op.unary]

theorem does_toInt {s d : TypeId} {xo : Operand} {k' : IntKind} (ho : o.op = .convert s d xo) {k0 : IntKind} (hs : P.underlying s = some (.int k0)) (hd : P.underlying d = some (.int k')) (hS : SimB X β N w L) {k : IntKind} {n : Int} (hx : ρ xo = .int k n) :
    Does P o ρ w (Step X β N w L al L (.d (.int k' (k'.wrap n)))) := by
  refine ⟨_, w, .inl ?_, Step.same hS (VR.d_iff.2 rfl)⟩
  simp [execOp, ho, hx, convert, run_underlying hs, run_underlying hd, Conv.intToInt]

theorem does_conv_str {s d : TypeId} {xo : Operand} (ho : o.op = .convert s d xo) (hs : P.underlying s = some .string) (hd : P.underlying d = some .string) (hS : SimB X β N w L) {l : List UInt8} (hx : VR (All X β L) β N w (.d (.str l)) (ρ xo)) :
    Does P o ρ w (Step X β N w L al L (.d (.str l))) := by
  obtain ⟨u, hu, _⟩ := VR.d_iff.1 hx
  refine ⟨ρ xo, w, .inl ?_, Step.same hS hx⟩
  simp [execOp, ho, hu, convert, run_underlying hs, run_underlying hd]

theorem does_eq {op : BinOp} {ng : Bool} {t yt : TypeId} {xo yo : Operand} (ho : o.op = .binOp op t xo yo yt) (hop : isNeg op = some ng) (hS : SimB X β N w L) {r : Bool}
    (hg : (eqGuard op t xo yo (ρ xo) (ρ yo)).run P w = .ok () w)
    (hb : (binOp op t (ρ xo) (ρ yo)).run P w = .ok (.bool (cond ng (!r) r)) w) :
    Does P o ρ w (Step X β N w L al L (.d (.bool (cond ng (!r) r)))) := by
  refine ⟨_, w, .inl ?_, Step.same hS (VR.d_iff.2 rfl)⟩
  simp [execOp, ho, Sem.run_bind, hg, hb]

theorem does_eqb {op : BinOp} {ng : Bool} {t yt : TypeId} {xo yo : Operand} (ho : o.op = .binOp op t xo yo yt) (hop : isNeg op = some ng) (ht : P.underlying t = some .bool) (hS : SimB X β N w L) {a b : Bool} (hx : ρ xo = .bool a) (hy : ρ yo = .bool b) :
    Does P o ρ w (Step X β N w L al L (.d (.bool (cond ng (!(a == b)) (a == b))))) := by
  refine does_eq ho hop hS (by rw [hx, hy]; exact run_eqGuard_int _ _ _ _ _ _ ⟨by simp, by simp⟩) ?_
  have he := run_equal_bool (P := P) w t a b ht
  cases op <;> simp [isNeg] at hop <;> subst hop <;> simp [hx, hy, binOp, Sem.run_bind, he]

def isNilFunc : Value → Bool
  | .nilFunc => true
  | _ => false

theorem run_equalIn_func_nil (d : Nat) (t : TypeId) {ps rs : Array TypeId} {va : Bool} (h : P.underlying t = some (.func ps rs va)) (x : Value) (hx : x = .nilFunc ∨ ∃ f a b, x = .func f a b) :
    (Op.equalIn (d + 1) t x .nilFunc).run P w = .ok (isNilFunc x) w := by
  rcases hx with rfl | ⟨f, a, b, rfl⟩ <;> simp [Op.equalIn, run_underlying h, isNilFunc]

theorem run_equal_func_nil (t : TypeId) {ps rs : Array TypeId} {va : Bool} (h : P.underlying t = some (.func ps rs va)) (x : Value) (hx : x = .nilFunc ∨ ∃ f a b, x = .func f a b) :
    (Op.equal t x .nilFunc).run P w = .ok (isNilFunc x) w := run_equalIn_func_nil 9999 t h x hx

theorem isNil_sound {k : Nat} {a : AV} {r : Bool} {v : Value} (hr : (isNil k a).run = some r) (hx : VR (All X β L) β N w a v) {t : TypeId} (hk : kindNil P t = some k) {y : Operand} {u : Value} (hy : constNil y = some k) (hu : y = .const u) :
    (Op.equal t v u).run P w = .ok r w ∧ (∀ cs, v ≠ .agg cs) ∧ v ≠ .nilIface ∧ (k = 0 → ∃ q m c, v = .slice q m c) ∧ (k = 1 → ∃ q, v = .pointer q) ∧ (k = 2 → v = .nilFunc ∨ ∃ f a b, v = .func f a b) := by
  subst hu
  have hd : (k = 0 ∧ ∃ e, P.underlying t = some (.slice e)) ∨ (k = 1 ∧ ∃ e, P.underlying t = some (.pointer e)) ∨ (k = 2 ∧ ∃ a b c, P.underlying t = some (.func a b c)) := by
    unfold kindNil at hk
    split at hk <;> simp at hk <;> subst hk
    · exact .inl ⟨rfl, _, by assumption⟩
    · exact .inr (.inl ⟨rfl, _, by assumption⟩)
    · exact .inr (.inr ⟨rfl, _, _, _, by assumption⟩)
  have hc : (k = 0 ∧ u = .slice none 0 0) ∨ (k = 1 ∧ u = .pointer none) ∨ (k = 2 ∧ u = .nilFunc) := by
    unfold constNil at hy
    split at hy <;> simp at hy <;> subst hy <;> rename_i he <;> cases he <;> simp
  have sliceCase : ∀ q m c, v = .slice q m c → k = 0 → q.isNone = r →
      (Op.equal t v u).run P w = .ok r w ∧ (∀ cs, v ≠ .agg cs) ∧ v ≠ .nilIface ∧ (k = 0 → ∃ q m c, v = .slice q m c) ∧ (k = 1 → ∃ q, v = .pointer q) ∧ (k = 2 → v = .nilFunc ∨ ∃ f a b, v = .func f a b) := by
    rintro q m c rfl rfl rfl
    rcases hd with ⟨_, e, he⟩ | ⟨h, _⟩ | ⟨h, _⟩ <;> try cases h
    rcases hc with ⟨_, rfl⟩ | ⟨h, _⟩ | ⟨h, _⟩ <;> try cases h
    exact ⟨run_equal_slice_nil w t e q m c he, by simp, by simp, fun _ => ⟨_, _, _, rfl⟩, by simp, by simp⟩
  have ptrCase : ∀ q, v = .pointer q → k = 1 → q.isNone = r →
      (Op.equal t v u).run P w = .ok r w ∧ (∀ cs, v ≠ .agg cs) ∧ v ≠ .nilIface ∧ (k = 0 → ∃ q m c, v = .slice q m c) ∧ (k = 1 → ∃ q, v = .pointer q) ∧ (k = 2 → v = .nilFunc ∨ ∃ f a b, v = .func f a b) := by
    rintro q rfl rfl rfl
    rcases hd with ⟨h, _⟩ | ⟨_, e, he⟩ | ⟨h, _⟩ <;> try cases h
    rcases hc with ⟨h, _⟩ | ⟨_, rfl⟩ | ⟨h, _⟩ <;> try cases h
    refine ⟨run_equal_pointer_nil w t q (by rw [he]; simp [Program.pointee, he]), by simp, by simp, by simp, fun _ => ⟨_, rfl⟩, by simp⟩
  have fnCase : ∀ (hv : v = .nilFunc ∨ ∃ f a b, v = .func f a b), k = 2 → isNilFunc v = r →
      (Op.equal t v u).run P w = .ok r w ∧ (∀ cs, v ≠ .agg cs) ∧ v ≠ .nilIface ∧ (k = 0 → ∃ q m c, v = .slice q m c) ∧ (k = 1 → ∃ q, v = .pointer q) ∧ (k = 2 → v = .nilFunc ∨ ∃ f a b, v = .func f a b) := by
    rintro hv rfl rfl
    rcases hd with ⟨h, _⟩ | ⟨h, _⟩ | ⟨_, a, b, c, he⟩ <;> try cases h
    rcases hc with ⟨h, _⟩ | ⟨h, _⟩ | ⟨_, rfl⟩ <;> try cases h
    refine ⟨run_equal_func_nil t he v hv, ?_, ?_, by simp, by simp, fun _ => hv⟩
    · rcases hv with rfl | ⟨f, a, b, rfl⟩ <;> simp
    · rcases hv with rfl | ⟨f, a, b, rfl⟩ <;> simp
  unfold isNil at hr
  split at hr <;> simp only [M.run, M.run_ifb, M.run_chk, Option.some.injEq, reduceCtorEq, beq_iff_eq] at hr
  · obtain ⟨rfl, rfl⟩ := hr; exact sliceCase _ _ _ (VR.d_iff.1 hx) rfl rfl
  · obtain ⟨rfl, rfl⟩ := hr; exact ptrCase _ (VR.d_iff.1 hx) rfl rfl
  · obtain ⟨rfl, rfl⟩ := hr
    have : v = .nilFunc := VR.d_iff.1 hx
    subst this
    exact fnCase (.inl rfl) rfl rfl
  · obtain ⟨rfl, hne, rfl⟩ := hr
    have hq : RD (All X β L) w (.sl _) _ (fun _ => some v) := VR.d_iff.1 hx
    obtain ⟨v', e, h⟩ := RD.slice hq
    cases e
    rcases h with ⟨_, _, _, _, rfl⟩ | ⟨c, off, cap, rfl, _⟩
    · simp at hne
    · exact sliceCase _ _ _ rfl rfl rfl
  · obtain ⟨rfl, rfl⟩ := hr; obtain ⟨_, c, _, rfl⟩ := VR.ptr_iff.1 hx; exact ptrCase _ rfl rfl rfl
  · obtain ⟨rfl, rfl⟩ := hr; obtain ⟨_, c, _, rfl⟩ := VR.eptr_iff.1 hx; exact ptrCase _ rfl rfl rfl
  · obtain ⟨rfl, rfl⟩ := hr; obtain ⟨c, base, _, _, rfl, _⟩ := VR.cptr_iff.1 hx; exact ptrCase _ rfl rfl rfl
  · obtain ⟨rfl, rfl⟩ := hr; obtain ⟨_, rfl, _⟩ := VR.snil_iff.1 hx; exact ptrCase _ rfl rfl rfl
  · obtain ⟨rfl, rfl⟩ := hr; obtain ⟨vs, rfl, _⟩ := VR.fn_iff.1 hx; exact fnCase (.inr ⟨_, _, _, rfl⟩) rfl rfl
  · obtain ⟨rfl, hne, rfl⟩ := hr
    obtain ⟨_, _, h⟩ := VR.sr_iff.1 hx
    rcases h with ⟨_, _, _, rfl, _⟩ | ⟨c, kk, _, rfl, _⟩
    · simp at hne
    · exact sliceCase _ _ _ rfl rfl rfl

theorem does_isnil {op : BinOp} {ng : Bool} {t yt : TypeId} {xo yo : Operand} {k : Nat} (ho : o.op = .binOp op t xo yo yt) (hop : isNeg op = some ng) (hS : SimB X β N w L) {a : AV} {r : Bool} (hx : VR (All X β L) β N w a (ρ xo))
    (hr : (isNil k a).run = some r) (hk : kindNil P t = some k) (hy : constNil yo = some k) (hρ : ∀ u, yo = .const u → ρ yo = u) :
    Does P o ρ w (Step X β N w L al L (.d (.bool (cond ng (!r) r)))) := by
  obtain ⟨u, hu⟩ : ∃ u, yo = .const u := by
    unfold constNil at hy
    split at hy <;> first | exact ⟨_, rfl⟩ | cases hy
  have hru := hρ u hu
  obtain ⟨he, h1, h2, h3, h4, h5⟩ := isNil_sound (P := P) hr hx hk hy hu
  refine does_eq ho hop hS (run_eqGuard_int _ _ _ _ _ _ ⟨h1, h2⟩) ?_
  rw [hru]
  have hk' : k = 0 ∧ u = .slice none 0 0 ∨ k = 1 ∧ u = .pointer none ∨ k = 2 ∧ u = .nilFunc := by
    subst hu
    unfold constNil at hy
    split at hy <;> simp at hy <;> subst hy <;> rename_i hh <;> cases hh <;> simp
  rcases hk' with ⟨rfl, rfl⟩ | ⟨rfl, rfl⟩ | ⟨rfl, rfl⟩
  · obtain ⟨q, m, c, hv⟩ := h3 rfl
    rw [hv] at he ⊢
    cases op <;> simp [isNeg] at hop <;> subst hop <;> simp [binOp, Sem.run_bind, he]
  · obtain ⟨q, hv⟩ := h4 rfl
    rw [hv] at he ⊢
    cases op <;> simp [isNeg] at hop <;> subst hop <;> simp [binOp, Sem.run_bind, he]
  · rcases h5 rfl with hv | ⟨f, b, c, hv⟩
    · rw [hv] at he ⊢
      cases op <;> simp [isNeg] at hop <;> subst hop <;> simp [binOp, Sem.run_bind, he]
    · rw [hv] at he ⊢
      cases op <;> simp [isNeg] at hop <;> subst hop <;> simp [binOp, Sem.run_bind, he]

end
end Go.Ev
namespace Go.Ev
set_option linter.unusedVariables false
set_option linter.unusedSimpArgs false
set_option linter.unusedSectionVars false
variable [Ctx]
section
variable {P : Program} {X : Blocks} {β : Map} {N : Nat → Prop} {w : World} {L : Looks} {al : Nat} {ρ : Operand → Value} {o : Oper}

theorem aggT_basic {t : TypeId} (h : (∃ k, P.underlying t = some (.int k)) ∨ P.underlying t = some .bool ∨ P.underlying t = some .string) : (isAgg t).run P w = .ok false w := by
  unfold isAgg
  rcases h with ⟨k, h⟩ | h | h <;> rw [Sem.run_bind, run_underlying h w] <;> rfl

theorem eqFields_run (d : Nat) : ∀ (fs : List Field) (off : Nat) (ks : List Nat) (xs ys : List AV) (r : Bool) (us vs : Array Value), eqKinds P off fs = some ks → (eqCells ks xs ys).run = some r →
    (∀ j a, xs[j]? = some a → ∃ u, us[off + j]? = some u ∧ VR X β N w a u) → (∀ j a, ys[j]? = some a → ∃ u, vs[off + j]? = some u ∧ VR X β N w a u) →
    (Op.eqFields (d + 1) us vs fs).run P w = .ok r w
  | [], off, ks, xs, ys, r, us, vs, h, hr, hx, hy => by
    simp [eqKinds] at h
    subst h
    unfold eqCells at hr
    split at hr <;> simp_all [M.run]
    simp [Op.eqFields]
  | f :: fs, off, ks, xs, ys, r, us, vs, h, hr, hx, hy => by
    unfold eqKinds at h
    split at h
    · rename_i hf
      obtain ⟨hf1, hf2⟩ := hf
      have core : ∀ (k : Nat) (ks' : List Nat), eqKinds P (off + 1) fs = some ks' → ks = k :: ks' → ((k = 0 ∧ ∃ q, P.underlying f.type = some (.int q)) ∨ (k = 1 ∧ P.underlying f.type = some .bool) ∨ (k = 2 ∧ P.underlying f.type = some .string)) →
          (Op.eqFields (d + 1) us vs (f :: fs)).run P w = .ok r w := by
        intro k ks' hks hk hty
        subst hk
        cases xs with
        | nil => simp [eqCells, M.run] at hr
        | cons a as =>
          cases ys with
          | nil => simp [eqCells, M.run] at hr
          | cons b bs =>
            simp only [eqCells] at hr
            split at hr
            · rename_i e he
              rw [M.run_bind] at hr
              cases hq : (eqCells ks' as bs).run with
              | none => rw [hq] at hr; simp at hr
              | some r' =>
                rw [hq] at hr
                simp [M.run] at hr
                subst hr
                obtain ⟨u, hu1, hu2⟩ := hx 0 a rfl
                obtain ⟨v, hv1, hv2⟩ := hy 0 b rfl
                simp only [Nat.add_zero] at hu1 hv1
                have ih := eqFields_run d fs (off + 1) ks' as bs r' us vs hks hq
                  (fun j a' ha => by have := hx (j + 1) a' (by simpa using ha); rwa [show off + (j + 1) = off + 1 + j by omega] at this)
                  (fun j a' ha => by have := hy (j + 1) a' (by simpa using ha); rwa [show off + (j + 1) = off + 1 + j by omega] at this)
                have hb : (∃ k, P.underlying f.type = some (.int k)) ∨ P.underlying f.type = some .bool ∨ P.underlying f.type = some .string := by
                  rcases hty with ⟨_, h⟩ | ⟨_, h⟩ | ⟨_, h⟩
                  · exact .inl h
                  · exact .inr (.inl h)
                  · exact .inr (.inr h)
                have hp1 : (part f.type us f.offset).run P w = .ok u w := by
                  unfold part; rw [Sem.run_bind, aggT_basic hb]; simp [hf2, hu1]
                have hp2 : (part f.type vs f.offset).run P w = .ok v w := by
                  unfold part; rw [Sem.run_bind, aggT_basic hb]; simp [hf2, hv1]
                have hE : (Op.equalIn (d + 1) f.type u v).run P w = .ok e w := by
                  rcases hty with ⟨rfl, q, ht⟩ | ⟨rfl, ht⟩ | ⟨rfl, ht⟩
                  · unfold eqD at he
                    split at he <;> simp at he
                    all_goals try (exfalso; simp_all; done)
                    obtain ⟨rfl, rfl⟩ := he
                    have e1 : u = .int _ _ := VR.d_iff.1 hu2
                    have e2 : v = .int _ _ := VR.d_iff.1 hv2
                    subst e1; subst e2
                    exact run_equalIn_int w d _ _ _ _ _ ht
                  · unfold eqD at he
                    split at he <;> simp at he
                    all_goals try (exfalso; simp_all; done)
                    subst he
                    have e1 : u = .bool _ := VR.d_iff.1 hu2
                    have e2 : v = .bool _ := VR.d_iff.1 hv2
                    subst e1; subst e2
                    exact run_equalIn_bool w d _ _ _ ht
                  · unfold eqD at he
                    split at he <;> simp at he
                    all_goals try (exfalso; simp_all; done)
                    subst he
                    obtain ⟨s1, rfl, rfl⟩ := VR.d_iff.1 hu2
                    obtain ⟨s2, rfl, rfl⟩ := VR.d_iff.1 hv2
                    rw [run_equalIn_string w d _ _ _ ht, ba_toList, ba_toList]
                simp only [Op.eqFields]
                rw [if_pos hf1]
                simp only [Sem.run_bind, hp1, hp2, hE, Result.andThen_ok]
                cases e with
                | true => simp [ih]
                | false => simp
            · simp [M.run] at hr
      split at h <;> simp at h
      · rename_i ks' hu hks; exact core 0 ks' hks h.symm (.inl ⟨rfl, _, hu⟩)
      · rename_i ks' hu hks; exact core 1 ks' hks h.symm (.inr (.inl ⟨rfl, hu⟩))
      · rename_i ks' hu hks; exact core 2 ks' hks h.symm (.inr (.inr ⟨rfl, hu⟩))
    · cases h

theorem does_eqs {op : BinOp} {ng : Bool} {t yt : TypeId} {xo yo : Operand} {fs : Array Field} {ks : List Nat} (ho : o.op = .binOp op t xo yo yt) (hop : isNeg op = some ng) (ht : P.underlying t = some (.struct fs)) (hks : eqKinds P 0 fs.toList = some ks)
    (hp : P.stoodInHeld t = false) (hgt : P.eqGuardType P.depth t = false) (hS : SimB X β N w L) {xs ys : List AV} (hx : VR (All X β L) β N w (.agg xs) (ρ xo)) (hy : VR (All X β L) β N w (.agg ys) (ρ yo)) {r : Bool} (hr : (eqCells ks xs ys).run = some r) :
    Does P o ρ w (Step X β N w L al L (.d (.bool (cond ng (!r) r)))) := by
  obtain ⟨us, hu, hu2⟩ := VR.agg_iff.1 hx
  obtain ⟨vs, hv, hv2⟩ := VR.agg_iff.1 hy
  have get : ∀ (xs : List AV) (us : Array Value), VRs (All X β L) β N w xs us.toList → ∀ j a, xs[j]? = some a → ∃ u, us[0 + j]? = some u ∧ VR (All X β L) β N w a u := by
    intro xs us h j a ha
    have hl := VRs.len _ _ h
    have hj : j < us.size := by have := (List.getElem?_eq_some_iff.1 ha).1; simp at hl; omega
    have hg : us[j]? = some us[j] := Array.getElem?_eq_getElem hj
    exact ⟨us[j], by rw [Nat.zero_add]; exact hg, VRs.get _ _ h j a _ ha (by simp)⟩
  have he := eqFields_run (P := P) 9998 fs.toList 0 ks xs ys r us vs hks hr (get xs us hu2) (get ys vs hv2)
  have hf : P.fieldsOf t = fs := by simp [Program.fieldsOf, ht]
  have hE : (Op.equalIn 10000 t (.agg us) (.agg vs)).run P w = .ok r w := by
    rw [run_equalIn_struct w 9999 t us vs (by rw [hf]; exact ht) hp, hf]
    exact he
  refine does_eq ho hop hS (by rw [hu, hv]; exact run_eqGuard_agg w op t xo yo us vs hgt) ?_
  rw [hu, hv]
  cases op <;> simp [isNeg] at hop <;> subst hop
  · rw [run_eql_struct, hE]; rfl
  · rw [run_neq_struct, hE]; rfl

theorem take_drop_VRs {Y : Blocks} (cs : List AV) (us : Array Value) (h : VRs Y β N w cs us.toList) (off n : Nat) : VRs Y β N w ((cs.drop off).take n) (us.extract off (off + n)).toList := by
  have hl := VRs.len _ _ h
  refine VRs.mk _ _ ?_ ?_
  · simp at hl ⊢; omega
  · intro j a v ha hv
    rw [List.getElem?_take] at ha
    split at ha
    · rename_i hj
      rw [List.getElem?_drop] at ha
      have hv' : us.toList[off + j]? = some v := by
        simp only [Array.toList_extract, List.extract_eq_take_drop] at hv
        rw [List.getElem?_take] at hv
        split at hv
        · rw [List.getElem?_drop] at hv; exact hv
        · cases hv
      exact VRs.get _ _ h _ a v ha hv'
    · cases ha

theorem does_get {t : TypeId} {xo : Operand} {f : Nat} {fs : Array Field} {fd : Field} {n : Nat} (ho : o.op = .field t xo f) (ht : P.underlying t = some (.struct fs)) (hf : fs[f]? = some fd) (hn : sizeT P fd.type = some n)
    (hu : (P.underlying fd.type).isSome = true) (hS : SimB X β N w L) {cs : List AV} (hx : VR (All X β L) β N w (.agg cs) (ρ xo)) (hle : fd.offset + n ≤ cs.length) {val : AV}
    (hval : (aggT P fd.type = true ∧ val = .agg ((cs.drop fd.offset).take n)) ∨ (aggT P fd.type = false ∧ (cs.drop fd.offset).take n = [val])) :
    Does P o ρ w (Step X β N w L al L val) := by
  obtain ⟨us, hus, hv⟩ := VR.agg_iff.1 hx
  obtain ⟨i, hi, rfl⟩ := sizeT_info hn
  have hl := VRs.len _ _ hv
  have hvs := take_drop_VRs cs us hv fd.offset i.size
  rcases hval with ⟨ha, rfl⟩ | ⟨ha, he⟩
  · refine ⟨.agg (us.extract fd.offset (fd.offset + i.size)), w, .inl ?_, Step.same hS (VR.agg_iff.2 ⟨_, rfl, hvs⟩)⟩
    have := run_isAgg (P := P) (w := w) hu
    rw [ha] at this
    simp [execOp, ho, Instr.field, run_underlying ht, hf, hus, asAgg, part, Sem.run_bind, this, sizeOf, typeInfo, hi]
  · rw [he] at hvs
    obtain ⟨v, hv1, hv2⟩ := VRs.one hvs
    have hg : us[fd.offset]? = some v := by
      have := congrArg (·[0]?) hv1
      simp only [Array.toList_extract, List.extract_eq_take_drop] at this
      rw [List.getElem?_take] at this
      split at this
      · rw [List.getElem?_drop] at this; simpa using this
      · simp at this
    refine ⟨v, w, .inl ?_, Step.same hS hv2⟩
    have := run_isAgg (P := P) (w := w) hu
    rw [ha] at this
    simp [execOp, ho, Instr.field, run_underlying ht, hf, hus, asAgg, part, Sem.run_bind, this, hg]

end
end Go.Ev
namespace Go.Ev
set_option linter.unusedVariables false
set_option linter.unusedSimpArgs false
set_option linter.unusedSectionVars false
variable [Ctx]
section
variable {P : Program} {X : Blocks} {β : Map} {N : Nat → Prop} {w : World} {L : Looks} {al : Nat} {ρ : Operand → Value} {o : Oper}

theorem fold_sound (f : AV → AV → M AV) (g : Value → Value → Sem Value) (hfg : ∀ a b r u v, (f a b).run = some r → VR (All X β L) β N w a u → VR (All X β L) β N w b v → ∃ x, (g u v).run P w = .ok x w ∧ VR (All X β L) β N w r x) :
    ∀ (as : List AV) (a r : AV) (u : Value) (us : List Value), (foldM f a as).run = some r → VR (All X β L) β N w a u → VRs (All X β L) β N w as us → ∃ x, (us.foldlM g u).run P w = .ok x w ∧ VR (All X β L) β N w r x
  | [], a, r, u, us, hr, hu, hus => by
    simp [foldM, M.run] at hr
    subst hr
    have := VRs.nil hus
    subst this
    exact ⟨u, by simp, hu⟩
  | b :: as, a, r, u, us, hr, hu, hus => by
    obtain ⟨v, vs, rfl, hv, hvs⟩ := VRs.cons hus
    simp only [foldM, M.run_bind] at hr
    cases hq : (f a b).run with
    | none => rw [hq] at hr; simp at hr
    | some q =>
      rw [hq] at hr
      simp only [Option.bind_some] at hr
      obtain ⟨x, h1, h2⟩ := hfg a b q u v hq hu hv
      obtain ⟨y, h3, h4⟩ := fold_sound f g hfg as q r x vs hr h2 hvs
      exact ⟨y, by simp [List.foldlM_cons, Sem.run_bind, h1, h3], h4⟩

theorem min2_sound (a b r : AV) (u v : Value) (hr : (min2 a b).run = some r) (hu : VR (All X β L) β N w a u) (hv : VR (All X β L) β N w b v) : ∃ x, (Builtin.min2 u v).run P w = .ok x w ∧ VR (All X β L) β N w r x := by
  unfold min2 at hr
  split at hr
  · simp [M.run] at hr
    subst hr
    have e1 := VR.d_iff.1 hu
    have e2 := VR.d_iff.1 hv
    rw [VRd.int_iff.1 e1, VRd.int_iff.1 e2]
    exact ⟨_, rfl, VR.d_iff.2 rfl⟩
  · simp [M.run] at hr

theorem max2_sound (a b r : AV) (u v : Value) (hr : (max2 a b).run = some r) (hu : VR (All X β L) β N w a u) (hv : VR (All X β L) β N w b v) : ∃ x, (Builtin.max2 u v).run P w = .ok x w ∧ VR (All X β L) β N w r x := by
  unfold max2 at hr
  split at hr
  · simp [M.run] at hr
    subst hr
    have e1 := VR.d_iff.1 hu
    have e2 := VR.d_iff.1 hv
    rw [VRd.int_iff.1 e1, VRd.int_iff.1 e2]
    exact ⟨_, by simp [Builtin.max2], VR.d_iff.2 rfl⟩
  · simp [M.run] at hr

theorem does_min {c : Call} (ho : o.op = .call c) (hc : c.callee = .builtin .min) (hS : SimB X β N w L) {a r : AV} {as : List AV} (hx : VRs (All X β L) β N w (a :: as) (c.args.toList.map ρ)) (hr : (foldM min2 a as).run = some r) :
    Does P o ρ w (Step X β N w L al L r) := by
  obtain ⟨v, vs, he, hv, hvs⟩ := VRs.cons hx
  obtain ⟨x, h1, h2⟩ := fold_sound (P := P) min2 Builtin.min2 min2_sound as a r v vs hr hv hvs
  refine ⟨x, w, .inl ?_, Step.same hS h2⟩
  have : (c.args.map ρ).toList = v :: vs := by rw [Array.toList_map]; exact he
  simp [execOp, ho, resolve, hc, invoke, builtin, Builtin.min_, he, h1]

theorem does_max {c : Call} (ho : o.op = .call c) (hc : c.callee = .builtin .max) (hS : SimB X β N w L) {a r : AV} {as : List AV} (hx : VRs (All X β L) β N w (a :: as) (c.args.toList.map ρ)) (hr : (foldM max2 a as).run = some r) :
    Does P o ρ w (Step X β N w L al L r) := by
  obtain ⟨v, vs, he, hv, hvs⟩ := VRs.cons hx
  obtain ⟨x, h1, h2⟩ := fold_sound (P := P) max2 Builtin.max2 max2_sound as a r v vs hr hv hvs
  refine ⟨x, w, .inl ?_, Step.same hS h2⟩
  have : (c.args.map ρ).toList = v :: vs := by rw [Array.toList_map]; exact he
  simp [execOp, ho, resolve, hc, invoke, builtin, Builtin.max_, he, h1]

theorem does_clo {f : FuncId} {first caps : Array Operand} (ho : o.op = .makeFunc (.func f) first caps) (hf : first.isEmpty = true) (hS : SimB X β N w L) {cs : List AV} (hx : VRs (All X β L) β N w cs (caps.toList.map ρ)) :
    Does P o ρ w (Step X β N w L al L (.fn f cs)) := by
  refine ⟨.func (.func f) #[] (caps.map ρ), w, .inl ?_, Step.same hS (VR.fn_iff.2 ⟨_, rfl, by rw [Array.toList_map]; exact hx⟩)⟩
  have : first = #[] := by simpa using hf
  subst this
  simp [execOp, ho, Instr.makeFunc]

def BoundIs (ρ : Operand → Value) (x : Option Operand) (n : Option Int) : Prop := (x = none ∧ n = none) ∨ ∃ q k i, x = some q ∧ ρ q = .int k i ∧ n = some i

theorem optI_sound {b : Bool} {xs xs' : List AV} {n : Option Int} {x : Option Operand} {rest : List Operand} (hb : b = x.isSome) (hr : (optI b xs).run = some (n, xs')) (hx : VRs (All X β L) β N w xs ((x.toList ++ rest).map ρ)) :
    BoundIs ρ x n ∧ VRs (All X β L) β N w xs' (rest.map ρ) := by
  unfold optI at hr
  split at hr
  · simp [M.run] at hr
    obtain ⟨rfl, rfl⟩ := hr
    cases x with
    | none => exact ⟨.inl ⟨rfl, rfl⟩, hx⟩
    | some q => cases hb
  · simp [M.run] at hr
    obtain ⟨rfl, rfl⟩ := hr
    cases x with
    | none => cases hb
    | some q =>
      obtain ⟨v, vs, he, hv, hvs⟩ := VRs.cons hx
      simp at he
      obtain ⟨rfl, rfl⟩ := he
      exact ⟨.inr ⟨q, _, _, rfl, VR.d_iff.1 hv, rfl⟩, hvs⟩
  · simp [M.run] at hr

theorem bound_run {n : Option Int} {d top m : Nat} (hr : (bound n d top).run = some m) : (n = none ∧ m = d) ∨ ∃ i, n = some i ∧ 0 ≤ i ∧ i ≤ (top : Int) ∧ m = i.toNat := by
  unfold bound at hr
  split at hr
  · simp [M.run] at hr; exact .inl ⟨rfl, hr.symm⟩
  · rename_i i
    rw [M.run_chk] at hr
    simp [M.run] at hr
    exact .inr ⟨i, rfl, hr.1.1, hr.1.2, hr.2.symm⟩

theorem run_sliceBound {i : Int} {k : IntKind} {y : Nat} {code : BoundsCode} (h0 : 0 ≤ i) (h1 : i ≤ (y : Int)) : (Instr.sliceBound (.int k i) y code).run P w = .ok i.toNat w := by
  simp [Instr.sliceBound, asIntOf, h0, h1]

theorem run_sliceBounds {isSlice : Bool} {len cap : Nat} {lo hi : Option Operand} {nl nh : Option Int} (hlo : BoundIs ρ lo nl) (hhi : BoundIs ρ hi nh) {h l top : Nat} (hh : (bound nh len top).run = some h) (hl : (bound nl 0 h).run = some l) (hle : top ≤ cap) :
    (Instr.sliceBounds isSlice len cap (lo.map ρ) (hi.map ρ) none).run P w = .ok (l, h, cap) w := by
  rcases hlo with ⟨rfl, rfl⟩ | ⟨q, k, i, rfl, hq, rfl⟩ <;> rcases hhi with ⟨rfl, rfl⟩ | ⟨q', k', i', rfl, hq', rfl⟩
  all_goals
    rcases bound_run hh with ⟨e1, e2⟩ | ⟨j, e1, e2, e3, e4⟩ <;> try cases e1
    rcases bound_run hl with ⟨f1, f2⟩ | ⟨j', f1, f2, f3, f4⟩ <;> try cases f1
    subst_vars
  · simp [Instr.sliceBounds]
  · have g := run_sliceBound (P := P) (w := w) (k := k') (code := if isSlice then .sliceAcap else .sliceAlen) e2 (show i' ≤ (cap : Int) by omega)
    simp [Instr.sliceBounds, Sem.run_bind, hq', g]
  · have g := run_sliceBound (P := P) (w := w) (k := k) (code := .sliceB) f2 f3
    simp [Instr.sliceBounds, Sem.run_bind, hq, g]
  · have g := run_sliceBound (P := P) (w := w) (k := k') (code := if isSlice then .sliceAcap else .sliceAlen) e2 (show i' ≤ (cap : Int) by omega)
    have g' := run_sliceBound (P := P) (w := w) (k := k) (code := .sliceB) f2 f3
    simp [Instr.sliceBounds, Sem.run_bind, hq, hq', g, g']

theorem run_sliceAt {t : TypeId} {v : Value} {lo hi mx : Option Value} (hu : (∃ e, P.underlying t = some (.slice e)) ∨ P.underlying t = some .string) :
    (Instr.sliceAt t v lo hi mx).run P w = (Instr.slice t v lo hi mx).run P w := by
  rcases hu with ⟨e, hu⟩ | hu <;> simp [Instr.sliceAt, run_underlying hu]

theorem does_cut_str {t : TypeId} {xo : Operand} {lo hi : Option Operand} (ho : o.op = .slice t xo lo hi none) (hu : P.underlying t = some .string) (hS : SimB X β N w L) {s : List UInt8} (hx : VR (All X β L) β N w (.d (.str s)) (ρ xo))
    {nl nh : Option Int} (hlo : BoundIs ρ lo nl) (hhi : BoundIs ρ hi nh) {h l : Nat} (hh : (bound nh s.length s.length).run = some h) (hl : (bound nl 0 h).run = some l) :
    Does P o ρ w (Step X β N w L al L (.d (.str ((s.take h).drop l)))) := by
  obtain ⟨b, hb, rfl⟩ := VR.d_iff.1 hx
  refine ⟨.string (b.extract l h), w, .inl ?_, Step.same hS (VR.d_iff.2 ⟨_, rfl, ?_⟩)⟩
  · have hbs := run_sliceBounds (P := P) (w := w) (isSlice := false) (cap := b.size) hlo hhi (len := b.size) (top := b.size) (h := h) (l := l) (by simpa using hh) hl (Nat.le_refl _)
    have := run_sliceAt (P := P) (w := w) (t := t) (v := ρ xo) (lo := lo.map ρ) (hi := hi.map ρ) (mx := none) (.inr hu)
    rw [hb] at this
    simp [execOp, ho, hb, Sem.run_bind, this, Instr.slice, run_underlying hu, hbs]
  · simp [ByteArray.data_extract, List.extract_eq_take_drop, List.drop_take]

end
end Go.Ev
namespace Go.Ev
set_option linter.unusedVariables false
set_option linter.unusedSimpArgs false
set_option linter.unusedSectionVars false
variable [Ctx]
section
variable {P : Program} {X : Blocks} {β : Map} {N : Nat → Prop} {w : World} {L : Looks} {al : Nat} {ρ : Operand → Value} {o : Oper}

theorem run_slice_sl {t e : TypeId} {sz : Nat} (hu : P.underlying t = some (.slice e)) (hn : sizeT P e = some sz) {a : Option Addr} {len cap : Nat} {lo hi : Option Operand} {nl nh : Option Int} (hlo : BoundIs ρ lo nl) (hhi : BoundIs ρ hi nh)
    {h l top : Nat} (hh : (bound nh len top).run = some h) (hl : (bound nl 0 h).run = some l) (hc : top ≤ cap) (hlt : len ≤ top) :
    (Instr.sliceAt t (.slice a len cap) (lo.map ρ) (hi.map ρ) none).run P w = .ok (.slice (if cap = l then a else a.map (·.add (l * sz))) (h - l) (cap - l)) w ∧ h ≤ top ∧ l ≤ h := by
  obtain ⟨i, hi2, rfl⟩ := sizeT_info hn
  have hbs := run_sliceBounds (P := P) (w := w) (isSlice := true) (cap := cap) hlo hhi (len := len) (top := top) (h := h) (l := l) hh hl hc
  refine ⟨?_, ?_, ?_⟩
  · rw [run_sliceAt (.inl ⟨e, hu⟩)]
    simp [Instr.slice, Sem.run_bind, run_underlying hu, hbs, sizeOf, typeInfo, hi2]
  · rcases bound_run hh with ⟨_, e2⟩ | ⟨j, _, e2, e3, e4⟩ <;> omega
  · rcases bound_run hl with ⟨_, e2⟩ | ⟨j, _, e2, e3, e4⟩ <;> omega

theorem exec_slice {t : TypeId} {xo : Operand} {lo hi : Option Operand} (ho : o.op = .slice t xo lo hi none) {u v : Value} (hu : ρ xo = u) (h : (Instr.sliceAt t u (lo.map ρ) (hi.map ρ) none).run P w = .ok v w) : (execOp ρ o).run P w = .ok (.value v) w := by
  subst hu
  simp [execOp, ho, Sem.run_bind, h]

theorem does_cut_sl {t e : TypeId} {xo : Operand} {lo hi : Option Operand} (ho : o.op = .slice t xo lo hi none) {ty : Ty} (hu : P.underlying t = some (.slice e)) (hn : sizeT P e = some ty.size) (hS : SimB X β N w L) {xs : List ty.den}
    (hx : VR (All X β L) β N w (.d (.sl ty xs)) (ρ xo)) {nl nh : Option Int} (hlo : BoundIs ρ lo nl) (hhi : BoundIs ρ hi nh) {h l : Nat} (hh : (bound nh xs.length xs.length).run = some h) (hl : (bound nl 0 h).run = some l) :
    Does P o ρ w (Step X β N w L al L (.d (.sl ty ((xs.take h).drop l)))) := by
  have hr : RD (All X β L) w (.sl ty) xs (fun _ => some (ρ xo)) := VR.d_iff.1 hx
  obtain ⟨v, e1, hq⟩ := RD.slice hr
  cases e1
  rcases hq with ⟨a, cap, hv, ha, rfl⟩ | ⟨c, off, cap, hv, hc, hb, hX, hel⟩
  · obtain ⟨h1, h2, h3⟩ := run_slice_sl (P := P) (w := w) (a := a) (cap := cap) hu hn hlo hhi (len := 0) (top := 0) (by simpa using hh) hl (Nat.zero_le _) (Nat.le_refl _)
    have h4 : h = 0 := by omega
    have h5 : l = 0 := by omega
    subst h4; subst h5
    refine ⟨.slice (if cap = 0 then a else a.map (·.add (0 * ty.size))) 0 cap, w, .inl ?_, Step.same hS (VR.d_iff.2 ?_)⟩
    · exact exec_slice ho hv (by simpa using h1)
    · simp only [List.take_nil, List.drop_nil]
      refine RD.empty ?_ rfl
      intro hn
      split at hn
      · exact ha hn
      · exact ha (by simpa using hn)
  · obtain ⟨h1, h2, h3⟩ := run_slice_sl (P := P) (w := w) (a := some ⟨c, off, none⟩) (cap := cap) hu hn hlo hhi hh hl hc (Nat.le_refl _)
    have hlen : ((xs.take h).drop l).length = h - l := by simp; omega
    by_cases hcl : cap = l
    · refine ⟨.slice (some ⟨c, off, none⟩) (h - l) (cap - l), w, .inl ?_, Step.same hS (VR.d_iff.2 ?_)⟩
      · rw [if_pos hcl] at h1; exact exec_slice ho hv h1
      · refine RD.sl c off (cap - l) (by rw [hlen]) (by rw [hlen]; omega) hb hX fun i hi => ?_
        rw [hlen] at hi; omega
    · refine ⟨.slice (some ⟨c, off + l * ty.size, none⟩) (h - l) (cap - l), w, .inl ?_, Step.same hS (VR.d_iff.2 ?_)⟩
      · rw [if_neg hcl, Option.map_some, Addr.add_mid] at h1; exact exec_slice ho hv h1
      · refine RD.sl c (off + l * ty.size) (cap - l) (by rw [hlen]) (by rw [hlen]; omega) hb hX fun i hi => ?_
        rw [hlen] at hi
        have hlt : l + i < xs.length := by omega
        have he : ((xs.take h).drop l)[i]'(by rw [hlen]; exact hi) = xs[l + i] := by simp
        rw [he]
        refine (hel (l + i) hlt).congr fun j hj => ?_
        rw [show off + l * ty.size + i * ty.size + j = off + (l + i) * ty.size + j by rw [Nat.add_mul]; omega]

theorem does_cut_nils {t e : TypeId} {xo : Operand} {lo hi : Option Operand} (ho : o.op = .slice t xo lo hi none) {sz : Nat} (hu : P.underlying t = some (.slice e)) (hn : sizeT P e = some sz) (hS : SimB X β N w L)
    (hx : ρ xo = .slice none 0 0) {nl nh : Option Int} (hlo : BoundIs ρ lo nl) (hhi : BoundIs ρ hi nh) {h l : Nat} (hh : (bound nh 0 0).run = some h) (hl : (bound nl 0 h).run = some l) :
    Does P o ρ w (Step X β N w L al L (.d .nils)) := by
  obtain ⟨h1, h2, h3⟩ := run_slice_sl (P := P) (w := w) (a := none) (cap := 0) hu hn hlo hhi (len := 0) hh hl (Nat.le_refl _) (Nat.le_refl _)
  refine ⟨.slice none 0 0, w, .inl ?_, Step.same hS (VR.d_iff.2 rfl)⟩
  have h4 : h = 0 := by omega
  have h5 : l = 0 := by omega
  subst h4; subst h5
  exact exec_slice ho hx (by simpa using h1)

theorem does_cut_sr {t e : TypeId} {xo : Operand} {lo hi : Option Operand} (ho : o.op = .slice t xo lo hi none) {b off len sz : Nat} {cap : Option Nat} (hu : P.underlying t = some (.slice e)) (hn : sizeT P e = some sz) (hS : SimB X β N w L)
    (hx : VR (All X β L) β N w (.sr b off len sz cap) (ρ xo)) {nl nh : Option Int} (hlo : BoundIs ρ lo nl) (hhi : BoundIs ρ hi nh) {h l : Nat} (hh : (bound nh len (cap.getD len)).run = some h) (hl : (bound nl 0 h).run = some l) (hll : l < len ∨ l = 0) :
    Does P o ρ w (Step X β N w L al L (.sr b (off + l) (h - l) sz (cap.map (· - l)))) := by
  obtain ⟨hN, hs, hq⟩ := VR.sr_iff.1 hx
  rcases hq with ⟨hβ, hv, rfl, rfl, rfl⟩ | ⟨c, k, hβ, hv, hc, hk, arr, e', fz, ha, hsz⟩
  · obtain ⟨h1, h2, h3⟩ := run_slice_sl (P := P) (w := w) (a := none) (cap := 0) hu hn hlo hhi (len := 0) (top := 0) (by simpa using hh) hl (Nat.le_refl _) (Nat.le_refl _)
    have h4 : h = 0 := by omega
    have h5 : l = 0 := by omega
    subst h4; subst h5
    refine ⟨.slice none 0 0, w, .inl ?_, Step.same hS (VR.sr_iff.2 ⟨hN, hs, .inl ⟨hβ, rfl, rfl, rfl, rfl⟩⟩)⟩
    exact exec_slice ho hv (by simpa using h1)
  · have hck : cap.getD len ≤ k := by
      cases cap with
      | none => exact hc
      | some q => simp [hk q rfl]
    obtain ⟨h1, h2, h3⟩ := run_slice_sl (P := P) (w := w) (a := some ⟨c, off * sz, none⟩) (cap := k) hu hn hlo hhi hh hl (by cases cap with | none => exact hc | some q => simp [hk q rfl]) (by cases cap with | none => exact Nat.le_refl _ | some q => simp; rw [← hk q rfl]; exact hc)
    refine ⟨.slice (some ⟨c, (off + l) * sz, none⟩) (h - l) (k - l), w, .inl ?_, Step.same hS (VR.sr_iff.2 ⟨hN, hs, .inr ⟨c, k - l, hβ, rfl, by omega, ?_, arr, e', fz, ha, ?_⟩⟩)⟩
    · by_cases hkl : k = l
      · have : l = 0 := by omega
        subst this
        subst hkl
        rw [if_pos rfl] at h1
        exact exec_slice ho hv (by simpa using h1)
      · rw [if_neg hkl, Option.map_some, Addr.add_mid, ← Nat.add_mul] at h1; exact exec_slice ho hv h1
    · intro k' hk'
      cases cap with
      | none => simp at hk'
      | some q => simp at hk'; rw [hk q rfl]; exact hk'
    · refine Nat.le_trans (Nat.mul_le_mul_right _ ?_) hsz
      omega

theorem does_cut_emp {t e : TypeId} {xo : Operand} {lo hi : Option Operand} (ho : o.op = .slice t xo lo hi none) {b off len sz : Nat} {ty : Ty} (hu : P.underlying t = some (.slice e)) (hn : sizeT P e = some sz) (hS : SimB X β N w L)
    (hx : VR (All X β L) β N w (.sr b off len sz none) (ρ xo)) {nl nh : Option Int} (hlo : BoundIs ρ lo nl) (hhi : BoundIs ρ hi nh) {h l : Nat} (hh : (bound nh len len).run = some h) (hl : (bound nl 0 h).run = some l) (hll : ¬ l < len) :
    Does P o ρ w (Step X β N w L al L (.d (.sl ty []))) := by
  obtain ⟨hN, hs, hq⟩ := VR.sr_iff.1 hx
  rcases hq with ⟨hβ, hv, rfl, rfl, _⟩ | ⟨c, k, hβ, hv, hc, hk, arr, e', fz, ha, hsz⟩
  · obtain ⟨h1, h2, h3⟩ := run_slice_sl (P := P) (w := w) (a := none) (cap := 0) hu hn hlo hhi (len := 0) (top := 0) hh hl (Nat.le_refl _) (Nat.le_refl _)
    have h4 : h = 0 := by omega
    have h5 : l = 0 := by omega
    subst h4; subst h5
    exact ⟨.slice none 0 0, w, .inl (exec_slice ho hv (by simpa using h1)), Step.same hS (VR.d_iff.2 (RD.empty (a := none) (fun _ => rfl) rfl))⟩
  · obtain ⟨h1, h2, h3⟩ := run_slice_sl (P := P) (w := w) (a := some ⟨c, off * sz, none⟩) (cap := k) hu hn hlo hhi hh hl hc (Nat.le_refl _)
    have h4 : h - l = 0 := by omega
    rw [h4] at h1
    by_cases hkl : k = l
    · rw [if_pos hkl] at h1
      exact ⟨_, w, .inl (exec_slice ho hv h1), Step.same hS (VR.d_iff.2 (RD.emp _ _ rfl))⟩
    · rw [if_neg hkl] at h1
      exact ⟨_, w, .inl (exec_slice ho hv h1), Step.same hS (VR.d_iff.2 (RD.emp _ _ rfl))⟩

theorem does_cut_any {t e : TypeId} {xo : Operand} {lo hi : Option Operand} (ho : o.op = .slice t xo lo hi none) {b off len sz : Nat} {cap : Option Nat} (hu : P.underlying t = some (.slice e)) (hn : sizeT P e = some sz) (hS : SimB X β N w L)
    (hx : VR (All X β L) β N w (.sr b off len sz cap) (ρ xo)) {nl nh : Option Int} (hlo : BoundIs ρ lo nl) (hhi : BoundIs ρ hi nh) {h l : Nat} (hh : (bound nh len (cap.getD len)).run = some h) (hl : (bound nl 0 h).run = some l) :
    Does P o ρ w (Step X β N w L al L .top) := by
  obtain ⟨hN, hs, hq⟩ := VR.sr_iff.1 hx
  rcases hq with ⟨hβ, hv, rfl, rfl, rfl⟩ | ⟨c, k, hβ, hv, hc, hk, arr, e', fz, ha, hsz⟩
  · obtain ⟨h1, h2, h3⟩ := run_slice_sl (P := P) (w := w) (a := none) (cap := 0) hu hn hlo hhi (len := 0) (top := 0) (by simpa using hh) hl (Nat.le_refl _) (Nat.le_refl _)
    exact ⟨_, w, .inl (exec_slice ho hv h1), Step.same hS (VR.top_iff.2 trivial)⟩
  · have hck : cap.getD len ≤ k := by
      cases cap with
      | none => exact hc
      | some q => simp [hk q rfl]
    obtain ⟨h1, h2, h3⟩ := run_slice_sl (P := P) (w := w) (a := some ⟨c, off * sz, none⟩) (cap := k) hu hn hlo hhi hh hl hck (by cases cap with | none => exact Nat.le_refl _ | some q => simp; rw [← hk q rfl]; exact hc)
    exact ⟨_, w, .inl (exec_slice ho hv h1), Step.same hS (VR.top_iff.2 trivial)⟩

theorem fill_sound (place : Nat → Option (Nat × Nat)) : ∀ (zs : List AV) (pl : List (Nat × Nat)) (as : List AV) (cs : List AV) (zu : Array Value) (ps : List (Nat × Value)), (buildGo zs pl as).run = some cs →
    VRs (All X β L) β N w zs zu.toList → VRs (All X β L) β N w as (ps.map (·.2)) → pl.length = ps.length → (∀ (j i : Nat) (v : Value) (p : Nat × Nat), ps[j]? = some (i, v) → pl[j]? = some p → place i = some p) →
    ∃ us, Instr.fill place zu ps = some us ∧ VRs (All X β L) β N w cs us.toList
  | zs, [], as, cs, zu, ps, hr, hz, ha, hl, hp => by
    cases ps with
    | cons p ps => simp at hl
    | nil =>
      have : as = [] := by cases as with | nil => rfl | cons a as => simp [VRs] at ha
      subst this
      simp [buildGo, M.run] at hr
      subst hr
      exact ⟨zu, rfl, hz⟩
  | zs, (off, n) :: pl, as, cs, zu, ps, hr, hz, ha, hl, hp => by
    cases ps with
    | nil => simp at hl
    | cons p ps =>
      obtain ⟨i, v⟩ := p
      cases as with
      | nil => simp [VRs] at ha
      | cons a as =>
        simp only [List.map_cons] at ha
        unfold VRs at ha
        obtain ⟨ha1, ha2⟩ := ha
        simp only [buildGo] at hr
        rw [M.run_ifb] at hr
        obtain ⟨hc, hr⟩ := hr
        simp only [Bool.and_eq_true, beq_iff_eq] at hc
        obtain ⟨⟨hc1, hc2⟩, hc3⟩ := hc
        have hc2' := Nat.le_of_ble_eq_true hc2
        obtain ⟨k1, k2⟩ := cells_VR ha1 hc3
        have hsz : v.cells.size = n := by have := VRs.len _ _ k1; simp at this; omega
        have hzl : zs.length = zu.size := by simpa using VRs.len _ _ hz
        have hpl := hp 0 i v (off, n) rfl rfl
        have hfold : ∀ (xs : List Value) (k : Nat) (arr : Array Value), off + k + xs.length ≤ arr.size → (xs.zipIdx k).foldl (fun cs (c, j) => cs.setIfInBounds (off + j) c) arr = (splice arr.toList (off + k) xs).toArray := by
          intro xs
          induction xs with
          | nil => intro k arr hk; simp [splice]
          | cons x xs ih =>
            intro k arr hk
            simp only [List.zipIdx_cons, List.foldl_cons]
            rw [ih (k + 1) _ (by simp at hk ⊢; omega)]
            apply Array.ext'
            apply List.ext_getElem?
            intro q
            simp only [List.length_cons] at hk
            rw [show (splice (arr.setIfInBounds (off + k) x).toList (off + (k + 1)) xs).toArray.toList = splice (arr.toList.set (off + k) x) (off + (k + 1)) xs by simp]
            rw [show (splice arr.toList (off + k) (x :: xs)).toArray.toList = splice arr.toList (off + k) (x :: xs) by simp]
            rw [splice_get _ _ _ _ (by simp; omega), splice_get _ _ _ _ (by simp; omega)]
            simp only [List.length_cons, List.getElem?_set, Array.length_toList]
            by_cases q1 : q < off + k
            · simp [q1, show q < off + (k + 1) by omega, show off + k ≠ q by omega]
            · by_cases q2 : q = off + k
              · subst q2; simp [show off + k < off + (k + 1) by omega, show off + k < arr.size by omega]
              · by_cases q3 : q < off + (k + 1) + xs.length
                · simp [q1, show ¬ q < off + (k + 1) by omega, q3, show q < off + k + (xs.length + 1) by omega, show q - (off + k) = (q - (off + (k + 1))) + 1 by omega]
                · simp [q1, show ¬ q < off + (k + 1) by omega, q3, show ¬ q < off + k + (xs.length + 1) by omega, show off + k ≠ q by omega]
        have hf := hfold v.cells.toList 0 zu (by simp; omega)
        obtain ⟨us, g1, g2⟩ := fill_sound place (splice zs off a.cells) pl as cs (splice zu.toList off v.cells.toList).toArray ps hr (by
            refine VRs.mk _ _ ?_ ?_
            · rw [splice_length _ _ _ (by omega)]; simp [splice_length, hsz, hzl]; rw [splice_length _ _ _ (by simp; omega)]; simp
            · intro j x y hx hy
              rw [splice_get _ _ _ _ (by omega)] at hx
              rw [show (splice zu.toList off v.cells.toList).toArray.toList = splice zu.toList off v.cells.toList by simp, splice_get _ _ _ _ (by simp; omega)] at hy
              simp only [Array.length_toList, hsz] at hy
              rw [hc1] at hx
              split at hx
              · rename_i q1; rw [if_pos q1] at hy; exact VRs.get _ _ hz j x y hx hy
              · rename_i q1
                rw [if_neg q1] at hy
                split at hx
                · rename_i q2; rw [if_pos q2] at hy; exact VRs.get _ _ k1 _ x y hx hy
                · rename_i q2; rw [if_neg q2] at hy; exact VRs.get _ _ hz j x y hx hy)
          ha2 (by simpa using hl) (fun j i' v' p' h1 h2 => hp (j + 1) i' v' p' (by simpa using h1) (by simpa using h2))
        refine ⟨us, ?_, g2⟩
        unfold Instr.fill
        rw [hpl]
        simp only
        rw [if_neg (by simp [hsz]; omega)]
        have hf' : (v.cells.zipIdx.foldl (fun cs x => match x with | (c, j) => cs.setIfInBounds (off + j) c) zu) = (splice zu.toList off v.cells.toList).toArray := by
          rw [← Array.foldl_toList, Array.toList_zipIdx]
          simpa using hf
        rw [← g1]
        congr 1

theorem does_build {t : TypeId} {ps : Array (Nat × Operand)} {fs : Array Field} {zs : List AV} {pl : List (Nat × Nat)} (ho : o.op = .build t ps) (hu : P.underlying t = some (.struct fs)) (hz : zeroAVs P t = some zs) (hpl : placesS P fs ps.toList = some pl)
    (hS : SimB X β N w L) {as cs : List AV} (hx : VRs (All X β L) β N w as ((ps.toList.map (·.2)).map ρ)) (hr : (buildGo zs pl as).run = some cs) (hall : fs.all (fun f => (sizeT P f.type).isSome) = true) :
    Does P o ρ w (Step X β N w L al L (.agg cs)) := by
  obtain ⟨i, z, h1, h2, h3⟩ := zeroAVs_run hz
  obtain ⟨h4, h5⟩ := ofCells_VRs (X := All X β L) (β := β) (N := N) (w := w) _ _ h3
  have places : ∀ (fl : List Field), fl.all (fun f => (sizeT P f.type).isSome) = true → ((fl.mapM (m := Sem) fun f => do pure (f.offset, ← sizeOf f.type)) : Sem (List (Nat × Nat))).run P w = .ok (fl.map fun f => (f.offset, (sizeT P f.type).getD 0)) w := by
    intro fl
    induction fl with
    | nil => intro _; simp
    | cons f fl ih =>
      intro h
      simp only [List.all_cons, Bool.and_eq_true] at h
      obtain ⟨n, hn⟩ := Option.isSome_iff_exists.1 h.1
      obtain ⟨q, hq, hq2⟩ := sizeT_info hn
      have hsz : (sizeOf f.type).run P w = .ok n w := by simp [sizeOf, typeInfo, hq, hq2]
      simp only [List.mapM_cons, Sem.run_bind, hsz, ih h.2, Result.andThen_ok, Sem.run_pure, List.map_cons, hn, Option.getD_some]
  have hpls : ∀ (l : List (Nat × Operand)) (pl : List (Nat × Nat)), placesS P fs l = some pl → pl.length = l.length ∧ ∀ (j i : Nat) (x : Operand) (p : Nat × Nat), l[j]? = some (i, x) → pl[j]? = some p → (fs.map fun (f : Field) => (f.offset, (sizeT P f.type).getD 0))[i]? = some p := by
    intro l
    induction l with
    | nil => intro pl h; simp [placesS] at h; subst h; simp
    | cons x l ih =>
      intro pl h
      obtain ⟨i, x⟩ := x
      simp only [placesS] at h
      split at h
      · rename_i f hf
        split at h <;> simp at h
        rename_i n pl' hn hpl'
        subst h
        obtain ⟨g1, g2⟩ := ih pl' hpl'
        refine ⟨by simp [g1], fun j i' x' p h1 h2 => ?_⟩
        cases j with
        | zero => simp at h1 h2; obtain ⟨rfl, rfl⟩ := h1; subst h2; simp [hf, hn]
        | succ j => exact g2 j i' x' p (by simpa using h1) (by simpa using h2)
      · cases h
  obtain ⟨e1, e2⟩ := hpls ps.toList pl hpl
  obtain ⟨us, g1, g2⟩ := fill_sound (X := X) (β := β) (N := N) (w := w) (L := L) ((fs.map fun f => (f.offset, (sizeT P f.type).getD 0))[·]?) zs pl as cs z.cells ((ps.map fun (i, x) => (i, ρ x)).toList) hr h4
    (by have e : ((ps.map fun (i, x) => (i, ρ x)).toList).map (·.2) = (ps.toList.map (·.2)).map ρ := by rw [Array.toList_map, List.map_map, List.map_map]; rfl
        rw [e]; exact hx) (by simpa using e1) (fun j i v p hj hp => by
      simp only [Array.toList_map, List.getElem?_map, Option.map_eq_some_iff] at hj
      obtain ⟨⟨i', x'⟩, hj1, hj2⟩ := hj
      cases hj2
      exact e2 j i' x' p hj1 hp)
  refine ⟨.agg us, w, .inl ?_, Step.same hS (VR.agg_iff.2 ⟨us, rfl, g2⟩)⟩
  have hpr := places fs.toList (by simpa using hall)
  have hpr' : ((fs.mapM (m := Sem) fun f => do pure (f.offset, ← sizeOf f.type)) : Sem (Array (Nat × Nat))).run P w = .ok (fs.map fun f => (f.offset, (sizeT P f.type).getD 0)) w := by
    rw [Array.mapM_eq_mapM_toList]
    simp only [map_eq_pure_bind, Sem.run_bind, hpr, Result.andThen_ok, Sem.run_pure]
    congr 1
    apply Array.ext'
    simp
  simp only [execOp, ho, Instr.build, Sem.run_bind, zeroValue, typeInfo, run_program, h1, h2, run_underlying hu, Result.andThen_ok, Sem.run_pure, hpr', g1]

end
end Go.Ev
namespace Go.Ev
set_option linter.unusedVariables false
set_option linter.unusedSimpArgs false
set_option linter.unusedSectionVars false
variable [Ctx]
section
variable {P : Program} {X : Blocks} {β : Map} {N : Nat → Prop} {w : World} {L : Looks} {al : Nat} {ρ : Operand → Value} {o : Oper}

def Cl (L L1 : Looks) : Prop := ∀ b, L1 b = L b ∨ ∃ (t : Ty) (l : List t.den) (q : Bool), L b = .arr t l q ∧ L1 b = .arr t l false

theorem Cl.refl (L : Looks) : Cl L L := fun _ => .inl rfl

theorem sr_RD {b off len : Nat} {cap : Option Nat} {t : Ty} {l : List t.den} {v : Value} (hS : SimB X β N w L) (hL : L b = .arr t l false) (hv : srOK β N w b off len t.size cap v) (hle : off + len ≤ l.length) :
    RD (All X β L) w (.sl t) ((l.drop off).take len) (fun _ => some v) := by
  obtain ⟨hN, hs, h⟩ := hv
  have hlen : ((l.drop off).take len).length = len := by simp; omega
  have hb := hS.box b
  rw [hL] at hb
  obtain ⟨h0, hb⟩ := hb
  rcases h with ⟨hβ, rfl, rfl, rfl, _⟩ | ⟨c, k, hβ, rfl, hk, _, arr, e, ha, hsz⟩
  · have : (List.take 0 (List.drop 0 l)) = ([] : List t.den) := by simp
    rw [this]
    exact RD.nil rfl
  · rcases hb with ⟨g1, _⟩ | ⟨c', arr', e', g1, g2, g3, g4, g5⟩
    · rw [hβ] at g1; cases g1
    · rw [hβ] at g1; cases g1
      refine RD.sl c (off * t.size) k (by rw [hlen]) (by rw [hlen]; exact hk) (heap_lt g2) (g4.1 rfl) fun i hi => ?_
      rw [hlen] at hi
      have hlt : off + i < l.length := by omega
      have he : ((l.drop off).take len)[i]'(by rw [hlen]; exact hi) = l[off + i] := by simp
      rw [he]
      refine (g5 (off + i) hlt).congr fun j hj => ?_
      rw [cell_of_arr g2, Nat.add_mul]

theorem toD_sound {B : Boxes} {L1 : Looks} (hS : SimB X β N w L1) (hcl : Cl (look B) L1) {a : AV} {x : D} {ws : List (Nat × Box)} (hr : (toD B a).run = some (x, ws)) {v : Value} (hv : VR (All X β L1) β N w a v) :
    SimB X β N w (updsL L1 ws) ∧ Fr (Own β L1) w (Own β (updsL L1 ws)) w ∧ VRd (All X β (updsL L1 ws)) w x v ∧ Cl (look B) (updsL L1 ws) := by
  unfold toD at hr
  split at hr
  · simp [M.run] at hr
    obtain ⟨rfl, rfl⟩ := hr
    exact ⟨hS, Fr.refl _ _, VR.d_iff.1 hv, hcl⟩
  · rename_i b off len sz cap
    split at hr
    · rename_i t l q hl
      rw [M.run_ifb] at hr
      obtain ⟨hsz, hr⟩ := hr
      rw [M.run_chk] at hr
      obtain ⟨hle, hr⟩ := hr
      simp [M.run] at hr
      obtain ⟨rfl, rfl⟩ := hr
      simp only [beq_iff_eq] at hsz
      subst hsz
      obtain ⟨q', hq'⟩ : ∃ q', L1 b = .arr t l q' := by
        rcases hcl b with h | ⟨t', l', q', h1, h2⟩
        · exact ⟨q, h.trans hl⟩
        · rw [hl] at h1; cases h1; exact ⟨false, h2⟩
      obtain ⟨s1, s2⟩ := Step.shut (al := 0) hS hq'
      refine ⟨s1, s2, ?_, ?_⟩
      · show VRd (All X β (updL L1 b (.arr t l false))) w _ v
        exact sr_RD s1 (if_pos rfl) (VR.sr_iff.1 hv) (by simpa using hle)
      · intro b'
        show updL L1 b (.arr t l false) b' = _ ∨ _
        by_cases e : b' = b
        · subst e
          exact .inr ⟨t, l, q, hl, if_pos rfl⟩
        · show (if b' = b then _ else L1 b') = _ ∨ _
          rw [if_neg e]
          rcases hcl b' with h | ⟨t', l', q2, h1, h2⟩
          · exact .inl h
          · refine .inr ⟨t', l', q2, h1, ?_⟩
            show (if b' = b then _ else L1 b') = _
            rw [if_neg e]; exact h2
    · simp [M.run] at hr
  · simp [M.run] at hr

theorem updsL_append (L : Looks) (a b : List (Nat × Box)) : updsL L (a ++ b) = updsL (updsL L a) b := by
  unfold updsL; rw [List.foldl_append]

theorem mv_cl {L1 L2 : Looks} (h : Fr (Own β L1) w (Own β L2) w) : Mv (All X β L1) β N w (All X β L2) β N w := mv_of h fun b hb => ⟨hb, rfl⟩

theorem VRds_iff {Y : Blocks} (ds : List D) (us : List Value) : (VRs Y β N w (ds.map AV.d) us) ↔ (ds.length = us.length ∧ ∀ (j : Nat) (d : D) (u : Value), ds[j]? = some d → us[j]? = some u → VRd Y w d u) := by
  constructor
  · intro h
    have hl := VRs.len _ _ h
    refine ⟨by simpa using hl, fun j d u hd hu => VR.d_iff.1 (VRs.get _ _ h j (.d d) u (by simp [hd]) hu)⟩
  · rintro ⟨h1, h2⟩
    refine VRs.mk _ _ (by simpa using h1) fun j a u ha hu => ?_
    simp only [List.getElem?_map, Option.map_eq_some_iff] at ha
    obtain ⟨d, hd, rfl⟩ := ha
    exact VR.d_iff.2 (h2 j d u hd hu)

theorem toDs_sound {B : Boxes} : ∀ (as : List AV) (xs : List D) (ws : List (Nat × Box)) (us : List Value) (L1 : Looks), SimB X β N w L1 → Cl (look B) L1 → (toDs B as).run = some (xs, ws) → VRs (All X β L1) β N w as us →
    SimB X β N w (updsL L1 ws) ∧ Fr (Own β L1) w (Own β (updsL L1 ws)) w ∧ VRs (All X β (updsL L1 ws)) β N w (xs.map AV.d) us ∧ Cl (look B) (updsL L1 ws)
  | [], xs, ws, us, L1, hS, hcl, hr, hv => by
    simp [toDs, M.run] at hr
    obtain ⟨rfl, rfl⟩ := hr
    have := VRs.nil hv
    subst this
    exact ⟨hS, Fr.refl _ _, by unfold VRs; trivial, hcl⟩
  | a :: as, xs, ws, us, L1, hS, hcl, hr, hv => by
    obtain ⟨u, us, rfl, hu, hus⟩ := VRs.cons hv
    simp only [toDs, M.run_bind] at hr
    cases h1 : (toD B a).run with
    | none => rw [h1] at hr; simp at hr
    | some p =>
      obtain ⟨x, w1⟩ := p
      rw [h1] at hr
      simp only [Option.bind_some, M.run_bind] at hr
      cases h2 : (toDs B as).run with
      | none => rw [h2] at hr; simp at hr
      | some p =>
        obtain ⟨xs', w2⟩ := p
        rw [h2] at hr
        simp [M.run] at hr
        obtain ⟨rfl, rfl⟩ := hr
        obtain ⟨a1, a2, a3, a4⟩ := toD_sound hS hcl h1 hu
        have mv := mv_cl (X := X) (N := N) a2
        obtain ⟨b1, b2, b3, b4⟩ := toDs_sound as xs' w2 us (updsL L1 w1) a1 a4 h2 (VRs.move mv _ _ hus)
        rw [updsL_append]
        refine ⟨b1, a2.trans b2, ?_, b4⟩
        simp only [List.map_cons]
        unfold VRs
        exact ⟨VR.d_iff.2 (a3.move (mv_cl (X := X) (N := N) b2).size (mv_cl (X := X) (N := N) b2).keep), b3⟩

theorem divmod_lt {q n sz : Nat} (h : q < n * sz) : q / sz < n ∧ q / sz * sz + q % sz = q ∧ 0 < sz := by
  have h0 : 0 < sz := by
    rcases Nat.eq_zero_or_pos sz with e | e
    · subst e; omega
    · exact e
  exact ⟨(Nat.div_lt_iff_lt_mul h0).2 h, by rw [Nat.mul_comm]; exact Nat.div_add_mod q sz, h0⟩

theorem rowCells {Y : Blocks} {t : Ty} {ys : List t.den} {G : Nat → Option Value} (h : ∀ i (hi : i < ys.length), RD Y w t ys[i] (fun j => G (i * t.size + j))) :
    ∃ us : List Value, us.length = ys.length * t.size ∧ (∀ q, q < ys.length * t.size → us[q]? = G q ∧ (G q).isSome = true) ∧ (∀ u ∈ us, u.oneCell' = true) ∧ (∀ i (hi : i < ys.length), RD Y w t ys[i] (fun j => us[i * t.size + j]?)) := by
  have some_ : ∀ q, q < ys.length * t.size → ∃ v, G q = some v ∧ v.oneCell' = true := by
    intro q hq
    obtain ⟨h1, h2, h3⟩ := divmod_lt hq
    have hlt : q % t.size < (encC t ys[q / t.size]).length := by rw [encC_length]; exact Nat.mod_lt _ h3
    obtain ⟨v, hv, hr⟩ := RD.cells (h (q / t.size) h1) (q % t.size) _ (List.getElem?_eq_getElem hlt)
    rw [h2] at hv
    exact ⟨v, hv, hr.oneCell⟩
  have get : ∀ q, q < ys.length * t.size → ((List.range (ys.length * t.size)).map fun q => (G q).getD undef)[q]? = G q ∧ (G q).isSome = true := by
    intro q hq
    obtain ⟨v, hv, _⟩ := some_ q hq
    simp [List.getElem?_range hq, hv]
  refine ⟨(List.range (ys.length * t.size)).map fun q => (G q).getD undef, by simp, get, ?_, fun i hi => ?_⟩
  · intro u hu
    obtain ⟨q, hq, rfl⟩ := List.mem_map.1 hu
    obtain ⟨v, hv, h1⟩ := some_ q (List.mem_range.1 hq)
    rw [hv]; exact h1
  · refine (h i hi).congr fun j hj => ?_
    have : i * t.size + j < ys.length * t.size := by
      have : (i + 1) * t.size ≤ ys.length * t.size := Nat.mul_le_mul_right _ hi
      rw [Nat.add_mul] at this; omega
    exact (get _ this).1

theorem firstCells_of {sz n c off len cap m : Nat} {us : List Value} {w1 : World} (h : ∀ q, q < n * sz → us[q]? = w1.cell? ⟨c, off + q, none⟩ ∧ (w1.cell? ⟨c, off + q, none⟩).isSome = true) (hl : us.length = n * sz) (hm : m ≤ n) :
    (Builtin.firstCells sz m (.slice (some ⟨c, off, none⟩) len cap)).run P w1 = .ok (us.take (m * sz)).toArray w1 := by
  have hle : m * sz ≤ n * sz := Nat.mul_le_mul_right _ hm
  refine run_firstCells_some (P := P) w1 sz m ⟨c, off, none⟩ len cap (us.take (m * sz)) (by simp; omega) fun j v hv => ?_
  rw [Addr.add_mid]
  rw [List.getElem?_take] at hv
  split at hv
  · rename_i hj
    rw [← (h j (by omega)).1]; exact hv
  · cases hv

theorem content_sound {B : Boxes} {t : Ty} (hS : SimB X β N w (look B)) {a : AV} {ys : List t.den} {rs : List Nat} (hr : (content B t a).run = some (ys, rs)) {v : Value} (hv : VR (All X β (look B)) β N w a v) (ht : 0 < t.size) :
    ∃ us : List Value, us.length = ys.length * t.size ∧ (∀ w1, (Builtin.lenOf v).run P w1 = .ok ys.length w1) ∧
      (∀ m w1, m ≤ ys.length → w1.heap = w.heap → (Builtin.firstCells t.size m v).run P w1 = .ok (us.take (m * t.size)).toArray w1) ∧
      (∀ i (hi : i < ys.length), RD (All X β (look B)) w t ys[i] (fun j => us[i * t.size + j]?)) ∧ (∀ u ∈ us, u.oneCell' = true) := by
  have nil : ∀ (q : Option Addr) (qc : Nat), v = .slice q 0 qc → ys = [] → ∃ us : List Value, us.length = ys.length * t.size ∧ (∀ w1, (Builtin.lenOf v).run P w1 = .ok ys.length w1) ∧
      (∀ m w1, m ≤ ys.length → w1.heap = w.heap → (Builtin.firstCells t.size m v).run P w1 = .ok (us.take (m * t.size)).toArray w1) ∧
      (∀ i (hi : i < ys.length), RD (All X β (look B)) w t ys[i] (fun j => us[i * t.size + j]?)) ∧ (∀ u ∈ us, u.oneCell' = true) := by
    rintro q qc rfl rfl
    refine ⟨[], by simp, fun w1 => by simp [Builtin.lenOf], fun m w1 hm _ => ?_, fun i hi => by simp at hi, by simp⟩
    obtain rfl : m = 0 := by simpa using hm
    cases q with
    | none => simp [Builtin.firstCells]
    | some b => simpa using run_firstCells_some (P := P) w1 t.size 0 b 0 qc [] (by simp) (fun j v hv => by simp at hv)
  have row : ∀ (c off cap : Nat), v = .slice (some ⟨c, off, none⟩) ys.length cap → (∀ i (hi : i < ys.length), RD (All X β (look B)) w t ys[i] (fun j => w.cell? ⟨c, off + (i * t.size + j), none⟩)) →
      ∃ us : List Value, us.length = ys.length * t.size ∧ (∀ w1, (Builtin.lenOf v).run P w1 = .ok ys.length w1) ∧
      (∀ m w1, m ≤ ys.length → w1.heap = w.heap → (Builtin.firstCells t.size m v).run P w1 = .ok (us.take (m * t.size)).toArray w1) ∧
      (∀ i (hi : i < ys.length), RD (All X β (look B)) w t ys[i] (fun j => us[i * t.size + j]?)) ∧ (∀ u ∈ us, u.oneCell' = true) := by
    rintro c off cap rfl h
    obtain ⟨us, h1, h2, h3, h4⟩ := rowCells (G := fun q => w.cell? ⟨c, off + q, none⟩) h
    refine ⟨us, h1, fun w1 => by simp [Builtin.lenOf], fun m w1 hm hw => firstCells_of (n := ys.length) (fun q hq => ?_) h1 hm, h4, h3⟩
    have : w1.cell? ⟨c, off + q, none⟩ = w.cell? ⟨c, off + q, none⟩ := by simp [World.cell?, hw]
    rw [this]; exact h2 q hq
  unfold content at hr
  split at hr
  · simp [M.run] at hr
    obtain ⟨rfl, rfl⟩ := hr
    exact nil _ _ (VR.d_iff.1 hv) rfl
  · rename_i t' l
    split at hr
    · rename_i e
      subst e
      simp [M.run] at hr
      obtain ⟨rfl, rfl⟩ := hr
      have hq : RD (All X β (look B)) w (.sl t') l (fun _ => some v) := VR.d_iff.1 hv
      obtain ⟨v', e, h⟩ := RD.slice hq
      cases e
      rcases h with ⟨q, qc, h1, _, h2⟩ | ⟨c, off, cap, h1, h2, h3, h4, h5⟩
      · exact nil q qc h1 h2
      · exact row c off cap h1 fun i hi => (h5 i hi).congr fun j hj => by rw [Nat.add_assoc]
    · simp [M.run] at hr
  · rename_i s
    split at hr
    · rename_i e
      subst e
      simp [M.run] at hr
      obtain ⟨rfl, rfl⟩ := hr
      obtain ⟨b, rfl, rfl⟩ := VR.d_iff.1 hv
      refine ⟨b.data.toList.map fun c => .int .u8 (c.toNat : Nat), by simp [Ty.size], fun w1 => by simp [Builtin.lenOf], fun m w1 hm _ => ?_, fun i hi => ?_, ?_⟩
      · simp only [List.length_map, Array.length_toList] at hm
        simp only [Builtin.firstCells, Ty.size, Nat.mul_one, Sem.run_pure]
        congr 1
        apply Array.ext'
        simp [ByteArray.data_extract, List.extract_eq_take_drop, List.map_take]
      · simp only [List.length_map, Array.length_toList] at hi
        refine RD.int ?_
        simp [Ty.size]
        simp at hi
        simp [hi]
      · intro u hu
        obtain ⟨c, _, rfl⟩ := List.mem_map.1 hu
        rfl
    · simp [M.run] at hr
  · rename_i b off len sz cap
    split at hr
    · rename_i t' l q hl
      split at hr
      · rename_i e
        subst e
        rw [M.run_ifb] at hr
        obtain ⟨hsz, hr⟩ := hr
        rw [M.run_chk] at hr
        obtain ⟨hle, hr⟩ := hr
        simp [M.run] at hr
        obtain ⟨rfl, rfl⟩ := hr
        simp only [beq_iff_eq] at hsz
        subst hsz
        have hle' : off + len ≤ l.length := by simpa using hle
        have hlen : ((l.drop off).take len).length = len := by simp; omega
        obtain ⟨hN, hs, h⟩ := VR.sr_iff.1 hv
        have hb := hS.box b
        rw [hl] at hb
        obtain ⟨h0, hb⟩ := hb
        rcases h with ⟨hβ, h1, h2, h3, _⟩ | ⟨c, k, hβ, h1, hk, _, arr, e, ha, hsz⟩
        · exact nil _ _ h1 (by rw [h3]; simp)
        · rcases hb with ⟨g1, _⟩ | ⟨c', arr', e', g1, g2, g3, g4, g5⟩
          · rw [hβ] at g1; cases g1
          · rw [hβ] at g1; cases g1
            refine row c (off * t'.size) k (by rw [hlen]; exact h1) fun i hi => ?_
            have hi' : i < len := by rw [hlen] at hi; exact hi
            have hlt : off + i < l.length := by omega
            have he : ((l.drop off).take len)[i] = l[off + i] := by simp
            rw [he]
            refine (g5 (off + i) hlt).congr fun j hj => ?_
            rw [cell_of_arr g2, Nat.add_mul, Nat.add_assoc]
      · simp [M.run] at hr
    · simp [M.run] at hr
  · simp [M.run] at hr


theorem headOf_sound {B : Boxes} {t : Ty} (hS : SimB X β N w (look B)) {a : AV} {m : Nat} {ys : List t.den} {rs : List Nat} (hr : (headOf B t a).run = some (m, ys, rs)) {v : Value} (hv : VR (All X β (look B)) β N w a v) (ht : 0 < t.size) :
    ∃ us : List Value, us.length = ys.length * t.size ∧ (∀ w1, (Builtin.lenOf v).run P w1 = .ok m w1) ∧
      (∀ q w1, q ≤ ys.length → w1.heap = w.heap → (Builtin.firstCells t.size q v).run P w1 = .ok (us.take (q * t.size)).toArray w1) ∧
      (∀ i (hi : i < ys.length), RD (All X β (look B)) w t ys[i] (fun j => us[i * t.size + j]?)) ∧ (∀ u ∈ us, u.oneCell' = true) := by
  have plain : ((content B t a).bind fun (ys, rs) => M.ret (ys.length, ys, rs)).run = some (m, ys, rs) → ∃ us : List Value, us.length = ys.length * t.size ∧ (∀ w1, (Builtin.lenOf v).run P w1 = .ok m w1) ∧
      (∀ q w1, q ≤ ys.length → w1.heap = w.heap → (Builtin.firstCells t.size q v).run P w1 = .ok (us.take (q * t.size)).toArray w1) ∧
      (∀ i (hi : i < ys.length), RD (All X β (look B)) w t ys[i] (fun j => us[i * t.size + j]?)) ∧ (∀ u ∈ us, u.oneCell' = true) := by
    intro h
    rw [M.run_bind, Option.bind_eq_some_iff] at h
    obtain ⟨⟨ys', rs'⟩, h1, h2⟩ := h
    simp only [M.run, Option.some.injEq, Prod.mk.injEq] at h2
    obtain ⟨rfl, rfl, rfl⟩ := h2
    exact content_sound (P := P) hS h1 hv ht
  unfold headOf at hr
  split at hr
  · rename_i b off len sz cap
    split at hr
    · rename_i t' l q hl
      rw [M.run_bind, Option.bind_eq_some_iff] at hr
      obtain ⟨⟨ys', rs'⟩, h1, h2⟩ := hr
      simp only [M.run, Option.some.injEq, Prod.mk.injEq] at h2
      obtain ⟨rfl, rfl, rfl⟩ := h2
      obtain ⟨hN, hs, h⟩ := VR.sr_iff.1 hv
      rcases h with ⟨hβ, rfl, rfl, rfl, rfl⟩ | ⟨c, k, hβ, rfl, hk, hkk, arr, e, fz, ha, hsz⟩
      · obtain ⟨us, g1, g2, g3, g4, g5⟩ := content_sound (P := P) (v := .slice none 0 0) hS h1 (VR.sr_iff.2 ⟨hN, hs, .inl ⟨hβ, rfl, rfl, by simp, rfl⟩⟩) ht
        exact ⟨us, g1, fun w1 => by simp [Builtin.lenOf], g3, g4, g5⟩
      · obtain ⟨us, g1, g2, g3, g4, g5⟩ := content_sound (P := P) (v := .slice (some ⟨c, off * sz, none⟩) (min len (l.length - off)) k) hS h1 (VR.sr_iff.2 ⟨hN, hs, .inr ⟨c, k, hβ, rfl, by omega, hkk, arr, e, fz, ha, hsz⟩⟩) ht
        exact ⟨us, g1, fun w1 => by simp [Builtin.lenOf], fun q w1 hq hw => g3 q w1 hq hw, g4, g5⟩
    · simp [M.run] at hr
  · exact plain hr

end
end Go.Ev
namespace Go.Ev
set_option linter.unusedVariables false
set_option linter.unusedSimpArgs false
set_option linter.unusedSectionVars false
variable [Ctx]
section
variable {P : Program} {X : Blocks} {β : Map} {N : Nat → Prop} {w : World} {L : Looks} {al : Nat} {ρ : Operand → Value} {o : Oper}

theorem splice_get' {α : Type} (l xs : List α) (p j : Nat) (h : p ≤ l.length) :
    (splice l p xs)[j]? = if j < p then l[j]? else if j < p + xs.length then xs[j - p]? else l[j]? := by
  unfold splice
  rw [List.append_assoc, List.getElem?_append, List.length_take, Nat.min_eq_left h]
  split
  · rename_i h1; rw [List.getElem?_take, if_pos h1]
  · rename_i h1
    rw [List.getElem?_append]
    split
    · rename_i h2; rw [if_pos (by omega)]
    · rename_i h2
      rw [if_neg (by omega), List.getElem?_drop]
      congr 1
      omega

theorem splice_length' {α : Type} (l xs : List α) (p : Nat) (h : p ≤ l.length) : (splice l p xs).length = max l.length (p + xs.length) := by
  unfold splice
  simp
  omega

theorem elem_lt {i n sz j : Nat} (hi : i < n) (hj : j < sz) : i * sz + j < n * sz := by
  have : (i + 1) * sz ≤ n * sz := Nat.mul_le_mul_right _ hi
  rw [Nat.add_mul] at this; omega

theorem putArr' {t : Ty} {l ys : List t.den} {b c p : Nat} {arr : Array Value} {e : TypeId} {us : List Value} {val : AV} {v : Value} (hS : SimB X β N w L) (hL : L b = .arr t l true) (hβ : β b = some c)
    (ha : w.heap[c]? = some (.cells arr e (0, 0))) (hfit : (p + ys.length) * t.size ≤ arr.size) (hp : p ≤ l.length) (hl : us.length = ys.length * t.size)
    (hr : ∀ i (hi : i < ys.length), RD (All X β L) w t ys[i] (fun j => us[i * t.size + j]?))
    (hval : Mv (All X β L) β N w (All X β (updL L b (.arr t (splice l p ys) true))) β N (w.setCells c (p * t.size) us) → VR (All X β (updL L b (.arr t (splice l p ys) true))) β N (w.setCells c (p * t.size) us) val v) :
    SimB X β N (w.setCells c (p * t.size) us) (updL L b (.arr t (splice l p ys) true)) ∧ VR (All X β (updL L b (.arr t (splice l p ys) true))) β N (w.setCells c (p * t.size) us) val v ∧ Fr (Own β L) w (Own β (updL L b (.arr t (splice l p ys) true))) (w.setCells c (p * t.size) us) := by
  have hb := hS.box b
  rw [hL] at hb
  obtain ⟨h0, hb⟩ := hb
  rcases hb with ⟨g1, _⟩ | ⟨c', arr', e', g1, g2, g3, g4, g5⟩
  · rw [hβ] at g1; cases g1
  rw [hβ] at g1; cases g1
  rw [ha] at g2; cases g2
  have hfit' : p * t.size + us.length ≤ arr.size := by rw [hl, ← Nat.add_mul]; exact hfit
  obtain ⟨arr', k1, k2, k3, k4, k5⟩ := setCells_heap c e us (p * t.size) w arr ha hfit'
  obtain ⟨r1, r2, r3, r4⟩ := setCells_rest c us (p * t.size) w
  refine Step.put' hS (by rw [hL]; rfl) rfl hβ ha k1 k2 r1 r2 r3 r4 (fun k hk => setCells_other c k hk _ _ _) fun mv => ⟨⟨h0, .inr ⟨c, arr', e, hβ, k1, ?_, ⟨by simp, g4.2⟩, fun i hi => ?_⟩⟩, hval mv⟩
  · rw [k2, splice_length' _ _ _ hp]
    rcases Nat.le_total l.length (p + ys.length) with h | h
    · rw [Nat.max_eq_right h]; exact hfit
    · rw [Nat.max_eq_left h]; exact g3
  · have hg := splice_get' l ys p i hp
    rw [List.getElem?_eq_getElem hi] at hg
    split at hg
    · rename_i h1
      have hil : i < l.length := by omega
      rw [List.getElem?_eq_getElem hil] at hg
      rw [Option.some.inj hg]
      refine (g5 i hil).move mv.size mv.keep _ fun j hj u hu => ?_
      have := elem_lt h1 hj
      rw [k3 _ this]; exact hu
    · rename_i h1
      split at hg
      · rename_i h2
        have hil : i - p < ys.length := by omega
        rw [List.getElem?_eq_getElem hil] at hg
        rw [Option.some.inj hg]
        refine (hr (i - p) hil).move mv.size mv.keep _ fun j hj u hu => ?_
        have := k4 _ u hu
        rwa [show p * t.size + ((i - p) * t.size + j) = i * t.size + j by rw [← Nat.add_assoc, ← Nat.add_mul, show p + (i - p) = i by omega]] at this
      · rename_i h2
        have hil : i < l.length := by
          have := splice_length' l ys p hp
          rw [this] at hi
          omega
        rw [List.getElem?_eq_getElem hil] at hg
        rw [Option.some.inj hg]
        refine (g5 i hil).move mv.size mv.keep _ fun j hj u hu => ?_
        rw [k5 _ (by rw [hl, ← Nat.add_mul]; exact Nat.le_trans (Nat.mul_le_mul_right _ (by omega)) (Nat.le_add_right _ _))]; exact hu

theorem putArr {t : Ty} {l ys : List t.den} {b c p : Nat} {arr : Array Value} {e : TypeId} {us : List Value} {val : AV} {v : Value} (hS : SimB X β N w L) (hL : L b = .arr t l true) (hβ : β b = some c)
    (ha : w.heap[c]? = some (.cells arr e (0, 0))) (hfit : (p + ys.length) * t.size ≤ arr.size) (hp : p ≤ l.length) (hl : us.length = ys.length * t.size)
    (hr : ∀ i (hi : i < ys.length), RD (All X β L) w t ys[i] (fun j => us[i * t.size + j]?))
    (hval : Mv (All X β L) β N w (All X β (updL L b (.arr t (splice l p ys) true))) β N (w.setCells c (p * t.size) us) → VR (All X β (updL L b (.arr t (splice l p ys) true))) β N (w.setCells c (p * t.size) us) val v) :
    Step X β N w L al (updL L b (.arr t (splice l p ys) true)) val v (w.setCells c (p * t.size) us) := by
  obtain ⟨h1, h2, h3⟩ := putArr' (val := val) (v := v) hS hL hβ ha hfit hp hl hr hval
  exact ⟨β, N, h1, h2, h3, fun b hb => ⟨hb, rfl⟩, fun b hb => .inl hb⟩

theorem decP_encC : ∀ (t : Ty) (x : t.den) (r : List D), decP t (encC t x ++ r) = some (x, r)
  | .int k, x, r => by simp [encC, decP]
  | .bool, x, r => by simp [encC, decP]
  | .str, x, r => by simp [encC, decP]
  | .unit, x, r => by simp [encC, decP]
  | .sl t, x, r => by simp [encC, decP]
  | .pair a b, x, r => by simp [encC, decP, List.append_assoc, decP_encC a, decP_encC b]
  | .rose t, x, r => by simp [encC, decP, List.append_assoc, decP_encC t, Rose.eta]

theorem zeros_VRd {Y : Blocks} : ∀ (ds : List D) (vs : List Value), zeros ds vs = true → vs.length = ds.length ∧ ∀ (j : Nat) (d : D), ds[j]? = some d → ∃ v, vs[j]? = some v ∧ VRd Y w d v
  | [], [], _ => ⟨rfl, by simp⟩
  | [], _ :: _, h => by simp [zeros] at h
  | _ :: _, [], h => by simp [zeros] at h
  | d :: ds, v :: vs, h => by
    simp only [zeros, Bool.and_eq_true] at h
    obtain ⟨h1, h2⟩ := zeros_VRd (Y := Y) ds vs h.2
    refine ⟨by simp [h1], fun j d' hd => ?_⟩
    cases j with
    | zero =>
      simp at hd
      subst hd
      refine ⟨v, rfl, ?_⟩
      have h0 := h.1
      unfold zero1 at h0
      split at h0
      · simp at h0; obtain ⟨rfl, rfl⟩ := h0; rfl
      · simp at h0; subst h0; rfl
      · simp only [Bool.and_eq_true, List.isEmpty_iff] at h0
        rw [h0.1]
        exact ⟨_, rfl, h0.2⟩
      · simp only [List.isEmpty_iff] at h0
        subst h0
        exact RD.nil rfl
      · cases h0
    | succ j => exact h2 j d' (by simpa using hd)

theorem zeroT_run {e : TypeId} {t : Ty} (h : zeroT P e t = true) : ∃ i z, P.info? e = some i ∧ i.zero = some z ∧ z.cells.size = t.size ∧ (∀ Y w, RD Y w t t.dflt (fun j => z.cells[j]?)) ∧ ∀ u ∈ z.cells.toList, u.oneCell' = true := by
  unfold zeroT at h
  split at h
  · rename_i i hi
    split at h
    · rename_i z hz
      have hlen := (zeros_VRd (w := default) (Y := fun _ => False) _ _ h).1
      refine ⟨i, z, hi, hz, by rw [encC_length] at hlen; simpa using hlen, fun Y w => ?_, ?_⟩
      · obtain ⟨h1, h2⟩ := zeros_VRd (w := w) (Y := Y) _ _ h
        have hd := decP_encC t t.dflt []
        rw [List.append_nil] at hd
        refine (decP_RD t _ _ _ _ hd fun j d hj => ?_).1
        obtain ⟨v, hv, hr⟩ := h2 j d hj
        exact ⟨v, by simpa using hv, hr⟩
      · intro u hu
        obtain ⟨h1, h2⟩ := zeros_VRd (w := default) (Y := fun _ => False) _ _ h
        obtain ⟨j, hj, rfl⟩ := List.mem_iff_getElem.1 hu
        obtain ⟨v, hv, hr⟩ := h2 j _ (List.getElem?_eq_getElem (by omega))
        rw [List.getElem?_eq_getElem hj] at hv
        cases hv
        exact hr.oneCell
    · cases h
  · cases h

theorem zeroRow {Y : Blocks} {z : Array Value} {t : Ty} (hz : z.size = t.size) (h0 : 0 < t.size) (hr : ∀ Y w, RD Y w t t.dflt (fun j => z[j]?)) (h1 : ∀ u ∈ z.toList, u.oneCell' = true) (n m : Nat) (hm : n * t.size ≤ m) :
    (∀ i (hi : i < (List.replicate n t.dflt).length), RD Y w t (List.replicate n t.dflt)[i] (fun j => ((List.range m).map fun q => z[q % z.size]!)[i * t.size + j]?)) ∧ ∀ u ∈ (List.range m).map fun q => z[q % z.size]!, u.oneCell' = true := by
  constructor
  · intro i hi
    simp only [List.length_replicate] at hi
    rw [List.getElem_replicate]
    refine (hr Y w).congr fun j hj => ?_
    have hlt := elem_lt hi hj
    have hq : (i * t.size + j) % z.size = j := by rw [hz, Nat.mul_comm, Nat.mul_add_mod, Nat.mod_eq_of_lt hj]
    simp only [List.getElem?_map, List.getElem?_range (show i * t.size + j < m by omega), Option.map_some, hq]
    rw [getElem!_pos z j (by omega), Array.getElem?_eq_getElem (by omega)]
  · intro u hu
    obtain ⟨q, _, rfl⟩ := List.mem_map.1 hu
    have : q % z.size < z.size := Nat.mod_lt _ (by omega)
    rw [getElem!_pos z _ this]
    exact h1 _ (by simp)

theorem newArr {t : Ty} {l : List t.den} {us : Array Value} {e : TypeId} {len k : Nat} {cap : Option Nat} {w0 : World} (hw : w.heap = w0.heap) (hS : SimB X β N w0 L) (hos : w.os = w0.os) (htp : w.tape = w0.tape) (hou : w.output = w0.output)
    (hal : ¬ N al) (htag : Ctx.tag t e) (h0 : 0 < t.size) (hlen : len ≤ k) (hk : ∀ k', cap = some k' → k = k') (hsz : k * t.size ≤ us.size) (hll : l.length * t.size ≤ us.size)
    (hr : ∀ i (hi : i < l.length), RD (All X β L) w0 t l[i] (fun j => us[i * t.size + j]?)) :
    Step X β N w0 L al (updL L al (.arr t l true)) (.sr al 0 len t.size cap) (.slice (some ⟨w0.heap.size, 0, none⟩) len k) (w.alloc (.cells us e)) := by
  have hS' : SimB X β N w L := by
    have mv : Mv (All X β L) β N w0 (All X β L) β N w := ⟨by rw [hw]; exact Nat.le_refl _, fun c _ h => ⟨h, by rw [hw]⟩, fun c arr e fz h => ⟨arr, fz, by rw [hw]; exact h, rfl⟩, fun _ h => h, fun _ _ => rfl⟩
    refine ⟨hS.apart, hS.inj, fun b => ?_, hS.dom, fun c hc => by rw [hw]; exact hS.old c hc, hS.tabs' ⟨hos, htp, hou, by rw [hw]; exact Nat.le_refl _, fun c _ h => ⟨h, by rw [hw]⟩, fun c arr e fz h => ⟨arr, fz, by rw [hw]; exact h, rfl⟩⟩⟩
    by_cases hd : L b = .dead
    · rw [hd]; trivial
    · exact (hS.box b).move mv (hS.dom b hd) fun c _ _ => by rw [hw]
  have st := Step.new (al := al) (x := .arr t l true) (o := .cells us e) (val := .sr al 0 len t.size cap) (v := .slice (some ⟨w0.heap.size, 0, none⟩) len k) hS' hal (by simp) fun β' N' mv e1 e2 =>
    ⟨⟨h0, .inr ⟨w.heap.size, us, e, e1, heap_new _ _, hll, ⟨by simp, htag⟩, fun i hi => (by
        refine (hr i hi).move ?_ ?_ _ fun j hj u hu => hu
        · rw [← hw]; simp
        · intro c hc hx
          exact mv.keep c (by rw [hw]; exact hc) hx |>.imp id fun h => by rw [h, hw])⟩⟩,
      VR.sr_iff.2 ⟨e2, h0, .inr ⟨w.heap.size, k, e1, by rw [hw]; simp, hlen, hk, us, e, _, heap_new _ _, by simpa using hsz⟩⟩⟩
  obtain ⟨β', N', s1, s2, s3, s4, s5⟩ := st
  refine ⟨β', N', s1, s2, ⟨s3.os.trans hos, s3.tape.trans htp, s3.output.trans hou, by rw [← hw]; exact s3.size, fun c hc ho => ?_, fun c arr e' fz h => s3.shape c arr e' fz (by rw [hw]; exact h)⟩, s4, s5⟩
  obtain ⟨q1, q2⟩ := s3.blk c (by rw [hw]; exact hc) ho
  exact ⟨q1, by rw [q2, hw]⟩

theorem does_mk {t e : TypeId} {lo co : Operand} {ty : Ty} {by_ : Nat} (ho : o.op = .makeSlice t lo co) (hu : P.underlying t = some (.slice e)) (hn : sizeT P e = some ty.size) (h0 : 0 < ty.size) (hby : bytesT P e = some by_) (hz : zeroT P e ty = true) (hS : SimB X β N w L) (hal : ¬ N al) (htag : Ctx.tag ty e)
    {k k' : IntKind} {n c : Int} (hl : ρ lo = .int k n) (hc : ρ co = .int k' c) (hn0 : 0 ≤ n) (hnc : n ≤ c) (hcb : c * by_ ≤ 70368744177664) (hc2 : c ≤ 70368744177664) :
    Does P o ρ w (Step X β N w L al (updL L al (.arr ty (List.replicate n.toNat ty.dflt) true)) (.sr al 0 n.toNat ty.size none)) := by
  obtain ⟨i, z, h1, h2, h3, h4, h5⟩ := zeroT_run hz
  have hsz : i.size = ty.size := by obtain ⟨i', hi', hs⟩ := sizeT_info hn; rw [h1] at hi'; cases hi'; exact hs
  have hbs : i.bytes = by_ := by simpa [bytesT, h1] using hby
  have hrow := zeroRow (Y := All X β L) (w := w) h3 h0 h4 h5 n.toNat (c.toNat * ty.size) (Nat.mul_le_mul_right _ (by omega))
  have hb : (i.bytes : Int) * c ≤ 281474976710656 := by rw [hbs, Int.mul_comm]; omega
  have hrun := run_make (P := P) w t e i z hu h1 h2 k k' n c hn0 hnc hb (by omega)
  rw [hsz] at hrun
  refine ⟨.slice (some ⟨w.heap.size, 0, none⟩) n.toNat c.toNat, w.alloc (.cells (madeCells z.cells (c.toNat * ty.size)) e), .inl ?_,
    newArr (w := w) (w0 := w) rfl hS rfl rfl rfl hal htag h0 (by omega) (by simp) (by simp [madeCells]) (by simp [madeCells]; exact Nat.mul_le_mul_right _ (by omega)) fun i hi => ?_⟩
  · simp [execOp, ho, hl, hc, Sem.run_bind, hrun]
  · refine (hrow.1 i hi).congr fun j hj => ?_
    simp only [List.length_replicate] at hi
    have hlt : i * ty.size + j < c.toNat * ty.size := elem_lt (by omega) hj
    have e1 : (Array.range (c.toNat * ty.size))[i * ty.size + j]? = some (i * ty.size + j) := by rw [Array.getElem?_eq_getElem (by simpa using hlt)]; simp
    simp [madeCells, e1, List.getElem?_range hlt]

theorem does_store_eptr {t : TypeId} {xo yo : Operand} {n b i off : Nat} {ty : Ty} {L1 : Looks} {l : List ty.den} {val : AV} {cs : List D} {x : ty.den} (ho : o.op = .store t xo yo) (hn : sizeT P t = some n) (hS : SimB X β N w L1)
    (hx : VR (All X β L1) β N w (.eptr b i ty.size off) (ρ xo)) (hL : L1 b = .arr ty l true) (hi : i < l.length) (hle : off + n ≤ ty.size)
    (hv : VRs (All X β L1) β N w (cs.map AV.d) (ρ yo).cells.toList) (h1 : ∀ u ∈ (ρ yo).cells.toList, u.oneCell' = true) (hlen : cs.length = n) (hd : decP ty (splice (encC ty l[i]) off cs) = some (x, [])) :
    Does P o ρ w (Step X β N w L1 al (updL L1 b (.arr ty (l.set i x) true)) .top) := by
  obtain ⟨hN, c, hβ, hp⟩ := VR.eptr_iff.1 hx
  have hbx := hS.box b
  rw [hL] at hbx
  obtain ⟨h0, hbx⟩ := hbx
  rcases hbx with ⟨g1, _⟩ | ⟨c', arr, e, g1, g2, g3, g4, g5⟩
  · rw [hβ] at g1; cases g1
  rw [hβ] at g1; cases g1
  obtain ⟨v1, v2⟩ := (VRds_iff cs _).1 hv
  have hsz : (ρ yo).cells.size = n := by simpa [hlen] using v1.symm
  have hfit : i * ty.size + off + n ≤ arr.size := by
    have : (i + 1) * ty.size ≤ l.length * ty.size := Nat.mul_le_mul_right _ hi
    rw [Nat.add_mul] at this; omega
  obtain ⟨arr', k1, k2, k3, k4, k5⟩ := setCells_heap c e (ρ yo).cells.toList (i * ty.size + off) w arr g2 (by simp; omega)
  obtain ⟨r1, r2, r3, r4⟩ := setCells_rest c (ρ yo).cells.toList (i * ty.size + off) w
  refine ⟨undef, w.setCells c (i * ty.size + off) (ρ yo).cells.toList, .inr ⟨?_, rfl⟩, ?_⟩
  · have hrun := run_store_any (P := P) (off := i * ty.size + off) hn hsz h1 g2 (by omega)
    simp [execOp, ho, hp, Sem.run_bind, hrun]
  · refine Step.put hS (by rw [hL]; rfl) rfl hβ g2 k1 k2 r1 r2 r3 r4 (fun k hk => setCells_other c k hk _ _ _) fun mv => ⟨⟨h0, .inr ⟨c, arr', e, hβ, k1, by rw [k2]; simpa using g3, ⟨by simp, g4.2⟩, fun q hq => ?_⟩⟩, VR.top_iff.2 trivial⟩
    simp only [List.length_set] at hq
    by_cases hqi : q = i
    · subst hqi
      rw [List.getElem_set_self]
      refine (decP_RD ty _ _ _ _ hd fun j d hj => ?_).1
      rw [splice_get _ _ _ _ (by rw [encC_length]; omega)] at hj
      have old : ∀ (j : Nat) (d : D), (encC ty l[q])[j]? = some d → (j < off ∨ off + n ≤ j) → ∃ v, arr'[q * ty.size + j]? = some v ∧ VRd (All X β (updL L1 b (.arr ty (l.set q x) true))) (w.setCells c (q * ty.size + off) (ρ yo).cells.toList) d v := by
        intro j d hj hout
        obtain ⟨v, hv, hr⟩ := RD.cells (g5 q hi) j d hj
        refine ⟨v, ?_, hr.move mv.size mv.keep⟩
        rcases hout with h | h
        · rw [k3 _ (by omega)]; exact hv
        · rw [k5 _ (by simp [hsz]; omega)]; exact hv
      split at hj
      · rename_i q1; exact old j d hj (.inl q1)
      · rename_i q1
        split at hj
        · rename_i q2
          have hlt : j - off < (ρ yo).cells.toList.length := by simp [hsz]; omega
          have hu : (ρ yo).cells.toList[j - off]? = some (ρ yo).cells.toList[j - off] := List.getElem?_eq_getElem hlt
          refine ⟨_, ?_, (v2 _ d _ hj hu).move mv.size mv.keep⟩
          have := k4 _ _ hu
          rwa [show q * ty.size + off + (j - off) = q * ty.size + j by omega] at this
        · rename_i q2; exact old j d hj (.inr (by omega))
    · rw [List.getElem_set_ne (fun h => hqi h.symm)]
      refine (g5 q hq).move mv.size mv.keep _ fun j hj u hu => ?_
      by_cases hlt : q < i
      · have : (q + 1) * ty.size ≤ i * ty.size := Nat.mul_le_mul_right _ hlt
        rw [Nat.add_mul] at this
        rw [k3 _ (by omega)]; exact hu
      · have : (i + 1) * ty.size ≤ q * ty.size := Nat.mul_le_mul_right _ (by omega)
        rw [Nat.add_mul] at this
        rw [k5 _ (by simp [hsz]; omega)]; exact hu

theorem does_cpy {B : Boxes} {c : Call} {xo yo : Operand} {t u e : TypeId} (ho : o.op = .call c) (hc : c.callee = .builtin .copy) (ha : c.args.toList = [xo, yo]) (ht : c.argTypes.toList = [t, u]) (hu : P.underlying t = some (.slice e)) {ty : Ty} (hn : sizeT P e = some ty.size) (h0 : 0 < ty.size)
    (hS : SimB X β N w (look B)) {b off len : Nat} {cap : Option Nat} {l : List ty.den} (hx : VR (All X β (look B)) β N w (.sr b off len ty.size cap) (ρ xo)) (hL : look B b = .arr ty l true) (hle : off ≤ l.length)
    {a : AV} {m : Nat} {ys : List ty.den} {rs : List Nat} (hy : VR (All X β (look B)) β N w a (ρ yo)) (hr : (headOf B ty a).run = some (m, ys, rs)) (hmy : min m len ≤ ys.length) :
    Does P o ρ w (Step X β N w (look B) al (updL (look B) b (.arr ty (splice l off (ys.take (min m len))) true)) (.d (.int .i64 ((min m len : Nat) : Int)))) := by
  obtain ⟨us, u1, u2, u3, u4, u5⟩ := headOf_sound (P := P) hS hr hy h0
  obtain ⟨inf, hi1, hi2⟩ := sizeT_info hn
  have ha' : c.args = #[xo, yo] := by rw [← Array.toArray_toList (xs := c.args), ha]
  have ht' : c.argTypes = #[t, u] := by rw [← Array.toArray_toList (xs := c.argTypes), ht]
  have hmin : Nat.min m len = min m len := rfl
  have hf := u3 (min m len) w (by omega) rfl
  obtain ⟨hN, hs, h⟩ := VR.sr_iff.1 hx
  have hbx := hS.box b
  rw [hL] at hbx
  obtain ⟨_, hbx⟩ := hbx
  rcases h with ⟨hβ, hv, rfl, rfl, _⟩ | ⟨cc, k, hβ, hv, hk, _, arr0, e0, fz0, ha0, hsz0⟩
  · refine ⟨goInt 0, w, .inl ?_, ?_⟩
    · simp only [Nat.min_zero, Nat.zero_mul, List.take_zero] at hf
      simp [execOp, ho, resolve, hc, ha', ht', invoke, builtin, Builtin.copy_, hv, run_underlying hu, u2, sizeOf, typeInfo, hi1, hi2, hf]
    · have hl0 : l = [] := by
        rcases hbx with ⟨_, g⟩ | ⟨c', arr, e', g1, _⟩
        · exact g
        · rw [hβ] at g1; cases g1
      subst hl0
      have hsp : splice ([] : List ty.den) 0 (ys.take (min m 0)) = [] := by simp [splice]
      rw [hsp]
      have hsame : updL (look B) b (.arr ty [] true) = look B := by
        funext q
        unfold updL
        split
        · rename_i h; rw [h]; exact hL.symm
        · rfl
      rw [hsame]
      exact Step.same hS (VR.d_iff.2 (by simp [goInt, VRd]))
  · rcases hbx with ⟨g1, _⟩ | ⟨c', arr, e', g1, g2, g3, g4, g5⟩
    · rw [hβ] at g1; cases g1
    rw [hβ] at g1; cases g1
    have htk : (us.take (min m len * ty.size)).length = (ys.take (min m len)).length * ty.size := by
      rw [List.length_take, List.length_take, u1]
      have : min m len * ty.size ≤ ys.length * ty.size := Nat.mul_le_mul_right _ hmy
      rw [Nat.min_eq_left this]
      congr 1
      omega
    have hfit : (off + (ys.take (min m len)).length) * ty.size ≤ arr.size := by
      rw [ha0] at g2; cases g2
      exact Nat.le_trans (Nat.mul_le_mul_right _ (by simp; omega)) hsz0
    refine ⟨goInt (min m len : Nat), w.setCells cc (off * ty.size) (us.take (min m len * ty.size)), .inl ?_, putArr hS hL hβ g2 hfit (by omega) htk (fun i hi => ?_) fun mv => VR.d_iff.2 rfl⟩
    · have hst := run_storeCells_cells (P := P) cc (off * ty.size) (us.take (min m len * ty.size)) 0 w
        (fun j hj => by
          rw [cell_of_arr g2]
          rw [htk] at hj
          rw [Nat.add_mul] at hfit
          simp
          omega)
        (fun j hj => by simp [World.frozen?, g2]) (fun u hu => u5 u (List.mem_of_mem_take hu))
      simp only [Nat.add_zero] at hst
      simp [execOp, ho, resolve, hc, ha', ht', invoke, builtin, Builtin.copy_, hv, run_underlying hu, u2, sizeOf, typeInfo, hi1, hi2, hmin, hf, hst]
    · have hi' : i < min m len := by simp at hi; omega
      have hil : i < ys.length := by omega
      have he : (ys.take (min m len))[i] = ys[i] := by simp
      rw [he]
      refine (u4 i hil).congr fun j hj => ?_
      rw [List.getElem?_take, if_pos (elem_lt hi' hj)]

end
end Go.Ev
namespace Go.Ev
set_option linter.unusedVariables false
set_option linter.unusedSimpArgs false
set_option linter.unusedSectionVars false
variable [Ctx]
section
variable {P : Program} {X : Blocks} {β : Map} {N : Nat → Prop} {w : World} {L : Looks} {al : Nat} {ρ : Operand → Value} {o : Oper}

def NoInt (P : Program) (u : TypeId) : Prop := (∃ e, P.underlying u = some (.slice e)) ∨ P.underlying u = some .string

theorem run_append_grow' (t u ty e : TypeId) (i : TypeInfo) (z : Value) (ht : P.underlying t = some (.slice e)) (hu : NoInt P u) (hi : P.info? e = some i) (hz : i.zero = some z)
    (base : Option Addr) (sLen sCap n : Nat) (olds news : Array Value) (x : Value) (hold : (Builtin.firstCells i.size sLen (.slice base sLen sCap)).run P w.drew = .ok olds w.drew) (hlen : ∀ w1, (Builtin.lenOf x).run P w1 = .ok n w1)
    (hnew : (Builtin.firstCells i.size n x).run P w.drew = .ok news w.drew) (hg : sCap < sLen + n) (h63 : sLen + n ≤ 70368744177664) (hfit : (sLen + n) * i.bytes ≤ 140737488355328) :
    (Builtin.append_ #[t, u] ty #[.slice base sLen sCap, x]).run P w =
      .ok (.slice (some ⟨w.heap.size, 0, none⟩) (sLen + n) (grownCap w (sLen + n) sCap e))
        (w.drew.alloc (.cells (olds ++ news ++ Builtin.zeroCells z.cells (grownCap w (sLen + n) sCap e - (sLen + n))) e)) := by
  have hn : ¬ (sLen + n ≤ sCap) := by omega
  have h63' : ¬ (9223372036854775807 < ((sLen : Int) + (n : Int))) := by omega
  have h48' : ¬ (281474976710656 < Builtin.nextslicecap (sLen + n) sCap * i.bytes) := by have := growslice_fits hg hfit; omega
  rcases hu with ⟨e', hd⟩ | hd <;> simp [Builtin.append_, run_underlying ht, run_underlying hd, sizeOf, typeInfo, zeroValue, hi, hz, hlen, hn, h63', h48', Question.forced, hold, hnew, newRow, grownCap]

theorem run_append_in (t u ty e : TypeId) (i : TypeInfo) (ht : P.underlying t = some (.slice e)) (hu : NoInt P u) (hi : P.info? e = some i)
    (c off sLen sCap n : Nat) (news : List Value) (x : Value) (hlen : ∀ w1, (Builtin.lenOf x).run P w1 = .ok n w1)
    (hnew : (Builtin.firstCells i.size n x).run P w = .ok news.toArray w) (hg : sLen + n ≤ sCap) {arr : Array Value} {e' : TypeId} (ha : w.heap[c]? = some (.cells arr e' (0, 0))) (hfit : off + sLen * i.size + news.length ≤ arr.size) (h1 : ∀ v ∈ news, v.oneCell' = true) :
    (Builtin.append_ #[t, u] ty #[.slice (some ⟨c, off, none⟩) sLen sCap, x]).run P w = .ok (.slice (some ⟨c, off, none⟩) (sLen + n) sCap) (w.setCells c (off + sLen * i.size) news) := by
  have hst := run_storeCells_cells (P := P) c (off + sLen * i.size) news 0 w (fun j hj => by rw [cell_of_arr ha]; simp; omega) (fun j hj => by simp [World.frozen?, ha]) h1
  simp only [Nat.add_zero] at hst
  rcases hu with ⟨e', hd⟩ | hd <;> simp [Builtin.append_, run_underlying ht, run_underlying hd, sizeOf, typeInfo, hi, hlen, hg, hnew, Addr.add_mid, hst]

theorem run_append_nil0 (t u ty e : TypeId) (i : TypeInfo) (ht : P.underlying t = some (.slice e)) (hu : NoInt P u) (hi : P.info? e = some i) (x : Value) (hlen : ∀ w1, (Builtin.lenOf x).run P w1 = .ok 0 w1)
    {news : Array Value} (hnew : (Builtin.firstCells i.size 0 x).run P w = .ok news w) :
    (Builtin.append_ #[t, u] ty #[.slice none 0 0, x]).run P w = .ok (.slice none 0 0) w := by
  rcases hu with ⟨e', hd⟩ | hd <;> simp [Builtin.append_, run_underlying ht, run_underlying hd, sizeOf, typeInfo, hi, hlen, hnew]

theorem exec_append {c : Call} {xo yo : Operand} {t u : TypeId} (ho : o.op = .call c) (hc : c.callee = .builtin .append) (ha : c.args.toList = [xo, yo]) (ht : c.argTypes.toList = [t, u]) {v : Value} {w' : World}
    (h : (Builtin.append_ #[t, u] o.type #[ρ xo, ρ yo]).run P w = .ok v w') : (execOp ρ o).run P w = .ok (.value v) w' := by
  have ha' : c.args = #[xo, yo] := by rw [← Array.toArray_toList (xs := c.args), ha]
  have ht' : c.argTypes = #[t, u] := by rw [← Array.toArray_toList (xs := c.argTypes), ht]
  simp [execOp, ho, resolve, hc, ha', ht', invoke, builtin, h]

theorem drew_heap : w.drew.heap = w.heap := rfl

theorem grown_RD {Y : Blocks} {t : Ty} {l ys : List t.den} {olds news rest : Array Value} (ho : olds.size = l.length * t.size) (hn : news.size = ys.length * t.size)
    (h1 : ∀ i (hi : i < l.length), RD Y w t l[i] (fun j => olds[i * t.size + j]?)) (h2 : ∀ i (hi : i < ys.length), RD Y w t ys[i] (fun j => news[i * t.size + j]?)) :
    ∀ i (hi : i < (l ++ ys).length), RD Y w t (l ++ ys)[i] (fun j => (olds ++ news ++ rest)[i * t.size + j]?) := by
  intro i hi
  rw [List.length_append] at hi
  by_cases hlt : i < l.length
  · rw [List.getElem_append_left hlt]
    refine (h1 i hlt).congr fun j hj => ?_
    have := elem_lt hlt hj
    rw [Array.append_assoc, Array.getElem?_append, if_pos (by omega)]
  · rw [List.getElem_append_right (by omega)]
    refine (h2 (i - l.length) (by omega)).congr fun j hj => ?_
    have h3 := elem_lt (show i - l.length < ys.length by omega) hj
    have h4 : i * t.size = l.length * t.size + (i - l.length) * t.size := by rw [← Nat.add_mul]; congr 1; omega
    rw [Array.append_assoc, Array.getElem?_append, if_neg (by omega), Array.getElem?_append, if_pos (by omega)]
    congr 1
    omega

theorem grownCap_ge' (need old : Nat) (e : TypeId) : need ≤ grownCap w need old e := grownCap_ge w need old e

section app
variable {c : Call} {xo yo : Operand} {t u e : TypeId} {ty : Ty} {by_ : Nat} {B : Boxes}

theorem does_app_nil (ho : o.op = .call c) (hc : c.callee = .builtin .append) (ha : c.args.toList = [xo, yo]) (ht : c.argTypes.toList = [t, u]) (hu : P.underlying t = some (.slice e)) (hni : NoInt P u) (hn : sizeT P e = some ty.size) (h0 : 0 < ty.size)
    (hby : bytesT P e = some by_) (hbp : 0 < by_) (hz : zeroT P e ty = true) (hS : SimB X β N w (look B)) (hal : ¬ N al) (htag : Ctx.tag ty e) (hx : ρ xo = .slice none 0 0) {a : AV} {ys : List ty.den} {rs : List Nat}
    (hy : VR (All X β (look B)) β N w a (ρ yo)) (hr : (content B ty a).run = some (ys, rs)) :
    (ys = [] → Does P o ρ w (Step X β N w (look B) al (look B) (.d .nils))) ∧
    (ys ≠ [] → ys.length * by_ ≤ 70368744177664 → Does P o ρ w (Step X β N w (look B) al (updL (look B) al (.arr ty ys true)) (.sr al 0 ys.length ty.size none))) := by
  obtain ⟨us, u1, u2, u3, u4, u5⟩ := content_sound (P := P) hS hr hy h0
  obtain ⟨inf, z, hi1, hz', hzs, _, _⟩ := zeroT_run hz
  have hi2 : inf.size = ty.size := by obtain ⟨i', hi', hs⟩ := sizeT_info hn; rw [hi1] at hi'; cases hi'; exact hs
  have hbs : inf.bytes = by_ := by simpa [bytesT, hi1] using hby
  constructor
  · intro hys
    subst hys
    have hf := u3 0 w (Nat.le_refl _) rfl
    rw [← hi2] at hf
    refine ⟨.slice none 0 0, w, .inl (exec_append ho hc ha ht ?_), Step.same hS (VR.d_iff.2 rfl)⟩
    rw [hx]
    exact run_append_nil0 t u o.type e inf hu hni hi1 _ u2 hf
  · intro hys hb
    have hpos : 0 < ys.length := List.length_pos_iff.2 hys
    have hlen : ys.length ≤ 70368744177664 := Nat.le_trans (Nat.le_mul_of_pos_right _ hbp) hb
    have hf := u3 ys.length w.drew (Nat.le_refl _) rfl
    rw [List.take_of_length_le (by omega), ← hi2] at hf
    have hrun := run_append_grow' (P := P) (w := w) t u o.type e inf z hu hni hi1 hz' none 0 0 ys.length #[] us.toArray (ρ yo) (by simp [Builtin.firstCells]) u2 hf (by omega) (by omega) (by rw [hbs, Nat.zero_add]; omega)
    rw [Nat.zero_add] at hrun
    refine ⟨_, _, .inl (exec_append ho hc ha ht (by rw [hx]; exact hrun)), ?_⟩
    have hge := grownCap_ge' (w := w) ys.length 0 e
    refine newArr (w := w.drew) (w0 := w) rfl hS rfl rfl rfl hal htag h0 hge (fun k' h => by cases h) ?_ ?_ fun i hi => ?_
    · simp only [Array.size_append, List.size_toArray, List.length_nil, u1, Builtin.zeroCells, Array.size_map, Array.size_range, hzs, Nat.zero_add, ← Nat.add_mul]
      exact Nat.mul_le_mul_right _ (by omega)
    · simp [u1]
    · have := grown_RD (Y := All X β (look B)) (w := w) (l := ([] : List ty.den)) (ys := ys) (olds := #[]) (news := us.toArray) (rest := Builtin.zeroCells z.cells (grownCap w ys.length 0 e - ys.length)) (by simp) (by simpa using u1) (fun i hi => by simp at hi) (fun i hi => (u4 i hi).congr fun j _ => by simp)
      simpa using this i (by simpa using hi)

theorem does_app_end (ho : o.op = .call c) (hc : c.callee = .builtin .append) (ha : c.args.toList = [xo, yo]) (ht : c.argTypes.toList = [t, u]) (hu : P.underlying t = some (.slice e)) (hni : NoInt P u) (hn : sizeT P e = some ty.size) (h0 : 0 < ty.size)
    (hby : bytesT P e = some by_) (hbp : 0 < by_) (hz : zeroT P e ty = true) (hS : SimB X β N w (look B)) (hal : ¬ N al) (htag : Ctx.tag ty e) {b : Nat} {l : List ty.den} (hx : VR (All X β (look B)) β N w (.sr b 0 l.length ty.size none) (ρ xo)) (hL : look B b = .arr ty l true)
    {a : AV} {ys : List ty.den} {rs : List Nat} (hy : VR (All X β (look B)) β N w a (ρ yo)) (hr : (content B ty a).run = some (ys, rs)) (hb : (l.length + ys.length) * by_ ≤ 70368744177664) :
    Does P o ρ w (Step X β N w (look B) al (updL (updL (look B) b .dead) al (.arr ty (l ++ ys) true)) (.sr al 0 (l.length + ys.length) ty.size none)) := by
  obtain ⟨us, u1, u2, u3, u4, u5⟩ := content_sound (P := P) hS hr hy h0
  obtain ⟨inf, z, hi1, hz', hzs, _, _⟩ := zeroT_run hz
  have hi2 : inf.size = ty.size := by obtain ⟨i', hi', hs⟩ := sizeT_info hn; rw [hi1] at hi'; cases hi'; exact hs
  have hbs : inf.bytes = by_ := by simpa [bytesT, hi1] using hby
  have hlen : l.length + ys.length ≤ 70368744177664 := Nat.le_trans (Nat.le_mul_of_pos_right _ hbp) hb
  have hbne : b ≠ al := fun e => hal (e ▸ hS.dom b (by rw [hL]; simp))
  obtain ⟨hN, hs, h⟩ := VR.sr_iff.1 hx
  have hbx := hS.box b
  rw [hL] at hbx
  obtain ⟨_, hbx⟩ := hbx
  -- the row is dropped, and a new one made
  have grow : ∀ (base : Option Addr) (sCap : Nat) (olds : Array Value), ρ xo = .slice base l.length sCap → (Builtin.firstCells inf.size l.length (.slice base l.length sCap)).run P w.drew = .ok olds w.drew → sCap < l.length + ys.length → olds.size = l.length * ty.size →
      (∀ i (hi : i < l.length), RD (All X β (look B)) w ty l[i] (fun j => olds[i * ty.size + j]?)) →
      Does P o ρ w (Step X β N w (look B) al (updL (updL (look B) b .dead) al (.arr ty (l ++ ys) true)) (.sr al 0 (l.length + ys.length) ty.size none)) := by
    intro base sCap olds hv hold hg hosz hord
    have hf := u3 ys.length w.drew (Nat.le_refl _) rfl
    rw [List.take_of_length_le (by omega), ← hi2] at hf
    have hrun := run_append_grow' (P := P) (w := w) t u o.type e inf z hu hni hi1 hz' base l.length sCap ys.length olds us.toArray (ρ yo) hold u2 hf hg hlen (by rw [hbs]; omega)
    refine ⟨_, _, .inl (exec_append ho hc ha ht (by rw [hv]; exact hrun)), ?_⟩
    obtain ⟨k1, k2⟩ := Step.kill (b := b) hS
    have mv := mv_of (X := X) k2 (β' := β) (N := N) (N' := N) fun b hb => ⟨hb, rfl⟩
    have hge := grownCap_ge' (w := w) (l.length + ys.length) sCap e
    have st : Step X β N w (updL (look B) b .dead) al (updL (updL (look B) b .dead) al (.arr ty (l ++ ys) true)) (.sr al 0 (l.length + ys.length) ty.size none)
        (.slice (some ⟨w.heap.size, 0, none⟩) (l.length + ys.length) (grownCap w (l.length + ys.length) sCap e)) (w.drew.alloc (.cells (olds ++ us.toArray ++ Builtin.zeroCells z.cells (grownCap w (l.length + ys.length) sCap e - (l.length + ys.length))) e)) := by
      refine newArr (w := w.drew) (w0 := w) rfl k1 rfl rfl rfl hal htag h0 hge (fun k' h => by cases h) ?_ ?_ fun i hi => ?_
      · simp only [Array.size_append, List.size_toArray, u1, hosz, Builtin.zeroCells, Array.size_map, Array.size_range, hzs, ← Nat.add_mul]
        exact Nat.mul_le_mul_right _ (by omega)
      · simp only [Array.size_append, List.size_toArray, u1, hosz, List.length_append, ← Nat.add_mul]
        omega
      · have := grown_RD (Y := All X β (look B)) (w := w) (l := l) (ys := ys) (olds := olds) (news := us.toArray) (rest := Builtin.zeroCells z.cells (grownCap w (l.length + ys.length) sCap e - (l.length + ys.length))) hosz (by simpa using u1) hord (fun i hi => (u4 i hi).congr fun j _ => by simp)
        exact (this i hi).move mv.size mv.keep _ fun _ _ _ h => h
    obtain ⟨β', N', s1, s2, s3, s4, s5⟩ := st
    exact ⟨β', N', s1, s2, k2.trans s3, s4, s5⟩
  rcases h with ⟨hβ, hv, _, hl0, _⟩ | ⟨cc, k, hβ, hv, hk, _, arr0, e0, fz0, ha0, hsz0⟩
  · -- nil
    have hnil : l = [] := List.length_eq_zero_iff.1 hl0
    subst hnil
    by_cases hys : ys = []
    · subst hys
      have hf := u3 0 w (Nat.le_refl _) rfl
      rw [← hi2] at hf
      obtain ⟨n1, n2, n3, n4, n5, n6⟩ := Step.name (al := al) hS hL hal
      refine ⟨.slice none 0 0, w, .inl (exec_append ho hc ha ht ?_), _, _, n1, ?_, n2, n3, n4⟩
      · rw [hv]; exact run_append_nil0 t u o.type e inf hu hni hi1 _ u2 hf
      · exact VR.sr_iff.2 ⟨n6, h0, .inl ⟨by rw [n5]; exact hβ, rfl, rfl, rfl, rfl⟩⟩
    · have hpos : 0 < ys.length := List.length_pos_iff.2 hys
      exact grow none 0 #[] hv (by simp [Builtin.firstCells]) (by simpa using hpos) (by simp) (fun i hi => by simp at hi)
  · rcases hbx with ⟨g1, _⟩ | ⟨c', arr, e', g1, g2, g3, g4, g5⟩
    · rw [hβ] at g1; cases g1
    rw [hβ] at g1; cases g1
    rw [ha0] at g2; cases g2
    simp only [Nat.zero_mul, Nat.zero_add] at hv hsz0
    by_cases hroom : l.length + ys.length ≤ k
    · -- in place
      have hf := u3 ys.length w (Nat.le_refl _) rfl
      rw [List.take_of_length_le (by omega), ← hi2] at hf
      have hfit : (l.length + ys.length) * ty.size ≤ arr0.size := Nat.le_trans (Nat.mul_le_mul_right _ hroom) hsz0
      have hrun := run_append_in (P := P) (w := w) t u o.type e inf hu hni hi1 cc 0 l.length k ys.length us (ρ yo) u2 hf hroom ha0 (by rw [hi2, u1, Nat.zero_add, ← Nat.add_mul]; exact hfit) u5
      rw [hi2, Nat.zero_add] at hrun
      refine ⟨_, _, .inl (exec_append ho hc ha ht (by rw [hv]; exact hrun)), ?_⟩
      have hsp : splice l l.length ys = l ++ ys := by simp [splice]
      obtain ⟨p1, p2, p3⟩ := putArr' (val := .top) (v := undef) hS hL hβ ha0 hfit (Nat.le_refl _) u1 u4 fun mv => VR.top_iff.2 trivial
      rw [hsp] at p1 p2 p3
      obtain ⟨n1, n2, n3, n4, n5, n6⟩ := Step.name (al := al) (l := l ++ ys) p1 (if_pos rfl) hal
      have hL' : updL (updL (updL (look B) b (.arr ty (l ++ ys) true)) b .dead) al (.arr ty (l ++ ys) true) = updL (updL (look B) b .dead) al (.arr ty (l ++ ys) true) := by
        funext q
        unfold updL
        split
        · rfl
        · split <;> rfl
      rw [hL'] at n1 n2 n4
      obtain ⟨arr', fz', q1, q2⟩ := p3.shape cc arr0 e0 _ ha0
      exact ⟨_, _, n1, VR.sr_iff.2 ⟨n6, h0, .inr ⟨cc, k, by rw [n5]; exact hβ, by simp, hroom, (fun k' h => by cases h), arr', e0, fz', q1, by rw [q2]; simpa using hsz0⟩⟩, p3.trans n2, n3, n4⟩
    · have hold := firstCells_of (P := P) (sz := ty.size) (n := l.length) (c := cc) (off := 0) (len := l.length) (cap := k) (m := l.length) (us := arr0.toList.take (l.length * ty.size)) (w1 := w.drew) (fun q hq => by
          have : w.drew.cell? ⟨cc, 0 + q, none⟩ = arr0[q]? := by rw [Nat.zero_add]; exact cell_of_arr (w := w.drew) (by rw [drew_heap]; exact ha0)
          rw [this, List.getElem?_take, if_pos hq]
          refine ⟨by simp, ?_⟩
          rw [Array.getElem?_eq_getElem (by omega)]; rfl) (by simp; omega) (Nat.le_refl _)
      rw [List.take_of_length_le (by simp; omega), ← hi2] at hold
      refine grow _ k _ hv hold (by omega) (by simp [hi2]; omega) fun i hi => (g5 i hi).congr fun j hj => ?_
      have := elem_lt hi hj
      rw [hi2]
      simp [List.getElem?_take, this]

theorem app_new (ho : o.op = .call c) (hc : c.callee = .builtin .append) (ha : c.args.toList = [xo, yo]) (ht : c.argTypes.toList = [t, u]) (hu : P.underlying t = some (.slice e)) (hni : NoInt P u) (h0 : 0 < ty.size) {inf : TypeInfo} {z : Value}
    (hi1 : P.info? e = some inf) (hz' : inf.zero = some z) (hzs : z.cells.size = ty.size) (hi2 : inf.size = ty.size) (hS : SimB X β N w L) (hal : ¬ N al) (htag : Ctx.tag ty e) {base : Option Addr} {len k : Nat} {olds : Array Value} {l0 ys : List ty.den} {us : List Value}
    (hv : ρ xo = .slice base len k) (hold : (Builtin.firstCells ty.size len (.slice base len k)).run P w.drew = .ok olds w.drew) (hl0 : l0.length = len) (hosz : olds.size = len * ty.size)
    (hord : ∀ i (hi : i < l0.length), RD (All X β L) w ty l0[i] (fun j => olds[i * ty.size + j]?)) (u1 : us.length = ys.length * ty.size) (u2 : ∀ w1, (Builtin.lenOf (ρ yo)).run P w1 = .ok ys.length w1)
    (hf : (Builtin.firstCells ty.size ys.length (ρ yo)).run P w.drew = .ok us.toArray w.drew) (u4 : ∀ i (hi : i < ys.length), RD (All X β L) w ty ys[i] (fun j => us[i * ty.size + j]?))
    (hg : k < len + ys.length) (hlen : len + ys.length ≤ 70368744177664) (hfit : (len + ys.length) * inf.bytes ≤ 140737488355328) :
    Does P o ρ w (Step X β N w L al (updL L al (.arr ty (l0 ++ ys) true)) (.sr al 0 (len + ys.length) ty.size none)) := by
  have hold' : (Builtin.firstCells inf.size len (.slice base len k)).run P w.drew = .ok olds w.drew := by rw [hi2]; exact hold
  have hf' : (Builtin.firstCells inf.size ys.length (ρ yo)).run P w.drew = .ok us.toArray w.drew := by rw [hi2]; exact hf
  have hrun := run_append_grow' (P := P) (w := w) t u o.type e inf z hu hni hi1 hz' base len k ys.length olds us.toArray (ρ yo) hold' u2 hf' hg hlen hfit
  have hge := grownCap_ge' (w := w) (len + ys.length) k e
  refine ⟨.slice (some ⟨w.heap.size, 0, none⟩) (len + ys.length) (grownCap w (len + ys.length) k e),
    w.drew.alloc (.cells (olds ++ us.toArray ++ Builtin.zeroCells z.cells (grownCap w (len + ys.length) k e - (len + ys.length))) e), .inl (exec_append ho hc ha ht (by rw [hv]; exact hrun)), ?_⟩
  refine newArr (w := w.drew) (w0 := w) rfl hS rfl rfl rfl hal htag h0 hge (fun k' h => by cases h) ?_ ?_ ?_
  · simp only [Array.size_append, hosz, List.size_toArray, u1, Builtin.zeroCells, Array.size_map, Array.size_range, hzs, ← Nat.add_mul]
    exact Nat.mul_le_mul_right _ (by omega)
  · simp only [Array.size_append, hosz, List.size_toArray, u1, List.length_append, hl0, ← Nat.add_mul]
    omega
  · exact grown_RD (Y := All X β L) (w := w) (l := l0) (ys := ys) (olds := olds) (news := us.toArray) (by rw [hosz, hl0]) (by simpa using u1) hord (fun i hi => (u4 i hi).congr fun j _ => by simp)

theorem does_app_cap (ho : o.op = .call c) (hc : c.callee = .builtin .append) (ha : c.args.toList = [xo, yo]) (ht : c.argTypes.toList = [t, u]) (hu : P.underlying t = some (.slice e)) (hni : NoInt P u) (hn : sizeT P e = some ty.size) (h0 : 0 < ty.size)
    (hby : bytesT P e = some by_) (hbp : 0 < by_) (hz : zeroT P e ty = true) (hS : SimB X β N w (look B)) (hal : ¬ N al) (htag : Ctx.tag ty e) {b off len k : Nat} {l : List ty.den} {live : Bool} (hx : VR (All X β (look B)) β N w (.sr b off len ty.size (some k)) (ρ xo)) (hL : look B b = .arr ty l live)
    (hle : off + len ≤ l.length) {a : AV} {ys : List ty.den} {rs : List Nat} (hy : VR (All X β (look B)) β N w a (ρ yo)) (hr : (content B ty a).run = some (ys, rs)) (hb : (len + ys.length) * by_ ≤ 70368744177664) :
    (len + ys.length ≤ k → live = true → Does P o ρ w (Step X β N w (look B) al (updL (look B) b (.arr ty (splice l (off + len) ys) true)) (.sr b off (len + ys.length) ty.size (some k)))) ∧
    (¬ len + ys.length ≤ k → Does P o ρ w (Step X β N w (look B) al (updL (look B) al (.arr ty ((l.drop off).take len ++ ys) true)) (.sr al 0 (len + ys.length) ty.size none))) := by
  obtain ⟨us, u1, u2, u3, u4, u5⟩ := content_sound (P := P) hS hr hy h0
  obtain ⟨inf, z, hi1, hz', hzs, _, _⟩ := zeroT_run hz
  have hi2 : inf.size = ty.size := by obtain ⟨i', hi', hs⟩ := sizeT_info hn; rw [hi1] at hi'; cases hi'; exact hs
  have hbs : inf.bytes = by_ := by simpa [bytesT, hi1] using hby
  have hlen : len + ys.length ≤ 70368744177664 := Nat.le_trans (Nat.le_mul_of_pos_right _ hbp) hb
  obtain ⟨hN, hs, h⟩ := VR.sr_iff.1 hx
  have hbx := hS.box b
  rw [hL] at hbx
  obtain ⟨_, hbx⟩ := hbx
  rcases h with ⟨_, _, _, _, hcap⟩ | ⟨cc, k', hβ, hv, hk, hkk, arr0, e0, fz0, ha0, hsz0⟩
  · cases hcap
  have := hkk k rfl
  subst this
  rcases hbx with ⟨g1, _⟩ | ⟨c', arr, e', g1, g2, g3, g4, g5⟩
  · rw [hβ] at g1; cases g1
  rw [hβ] at g1; cases g1
  rw [ha0] at g2; cases g2
  constructor
  · rintro hroom rfl
    have hf := u3 ys.length w (Nat.le_refl _) rfl
    rw [List.take_of_length_le (by omega), ← hi2] at hf
    have hfit : (off + len + ys.length) * ty.size ≤ arr0.size := Nat.le_trans (Nat.mul_le_mul_right _ (by omega)) hsz0
    have hrun := run_append_in (P := P) (w := w) t u o.type e inf hu hni hi1 cc (off * ty.size) len k' ys.length us (ρ yo) u2 hf hroom ha0 (by rw [hi2, u1, ← Nat.add_mul, ← Nat.add_mul]; exact hfit) u5
    rw [hi2, ← Nat.add_mul] at hrun
    refine ⟨_, _, .inl (exec_append ho hc ha ht (by rw [hv]; exact hrun)), putArr hS hL hβ ha0 hfit (by omega) u1 u4 fun mv => ?_⟩
    obtain ⟨arr', fz', q1, q2⟩ := mv.shape cc arr0 e0 _ ha0
    exact VR.sr_iff.2 ⟨hN, h0, .inr ⟨cc, k', hβ, rfl, hroom, hkk, arr', e0, fz', q1, by rw [q2]; exact hsz0⟩⟩
  · intro hroom
    have hlt : ∀ q, q < len * ty.size → off * ty.size + q < arr0.size := by
      intro q hq
      have : (off + len) * ty.size ≤ l.length * ty.size := Nat.mul_le_mul_right _ hle
      rw [Nat.add_mul] at this; omega
    have hold := firstCells_of (P := P) (sz := ty.size) (n := len) (c := cc) (off := off * ty.size) (len := len) (cap := k') (m := len) (us := (arr0.toList.drop (off * ty.size)).take (len * ty.size)) (w1 := w.drew) (fun q hq => by
        have : w.drew.cell? ⟨cc, off * ty.size + q, none⟩ = arr0[off * ty.size + q]? := cell_of_arr (w := w.drew) (by rw [drew_heap]; exact ha0)
        rw [this, List.getElem?_take, if_pos hq, List.getElem?_drop]
        refine ⟨by simp, ?_⟩
        rw [Array.getElem?_eq_getElem (hlt q hq)]; rfl) (by
          have : (off + len) * ty.size ≤ l.length * ty.size := Nat.mul_le_mul_right _ hle
          rw [Nat.add_mul] at this
          simp; omega) (Nat.le_refl _)
    rw [List.take_of_length_le (by simp; omega)] at hold
    have hf := u3 ys.length w.drew (Nat.le_refl _) rfl
    rw [List.take_of_length_le (by omega)] at hf
    have hosz : ((arr0.toList.drop (off * inf.size)).take (len * inf.size)).toArray.size = len * ty.size := by
      have : (off + len) * ty.size ≤ l.length * ty.size := Nat.mul_le_mul_right _ hle
      rw [Nat.add_mul] at this
      simp [hi2]; omega
    have hdl : ((l.drop off).take len).length = len := by simp; omega
    have hord : ∀ i (hi : i < ((l.drop off).take len).length), RD (All X β (look B)) w ty ((l.drop off).take len)[i] (fun j => ((arr0.toList.drop (off * inf.size)).take (len * inf.size)).toArray[i * ty.size + j]?) := by
      intro i hi
      have hi' : i < len := by rw [hdl] at hi; exact hi
      have he : ((l.drop off).take len)[i] = l[off + i]'(by omega) := by simp
      rw [he]
      refine (g5 (off + i) (by omega)).congr fun j hj => ?_
      have hq := elem_lt hi' hj
      rw [hi2]
      simp only [List.getElem?_toArray, List.getElem?_take, if_pos hq, List.getElem?_drop]
      rw [Nat.add_mul, ← Nat.add_assoc]
      simp
    rw [hi2] at hosz hord
    exact app_new ho hc ha ht hu hni h0 hi1 hz' hzs hi2 hS hal htag hv (l0 := (l.drop off).take len) hold hdl hosz hord u1 u2 hf u4 (by omega) hlen (by rw [hbs]; omega)

end app

theorem does_clr {c : Call} {xo : Operand} {t e : TypeId} (ho : o.op = .call c) (hc : c.callee = .builtin .clear) (ha : c.args.toList = [xo]) (ht : c.argTypes.toList = [t]) (hu : P.underlying t = some (.slice e)) {ty : Ty} (hn : sizeT P e = some ty.size) (h0 : 0 < ty.size) (hz : zeroT P e ty = true)
    (hS : SimB X β N w L) {b off len : Nat} {cap : Option Nat} {l : List ty.den} (hx : VR (All X β L) β N w (.sr b off len ty.size cap) (ρ xo)) (hL : L b = .arr ty l true) (hle : off + len ≤ l.length) :
    Does P o ρ w (Step X β N w L al (updL L b (.arr ty (splice l off (List.replicate len ty.dflt)) true)) (.tup [])) := by
  obtain ⟨inf, z, hi1, hz', hzs, hz4, hz5⟩ := zeroT_run hz
  have ha' : c.args = #[xo] := by rw [← Array.toArray_toList (xs := c.args), ha]
  have ht' : c.argTypes = #[t] := by rw [← Array.toArray_toList (xs := c.argTypes), ht]
  obtain ⟨hN, hs, h⟩ := VR.sr_iff.1 hx
  have hbx := hS.box b
  rw [hL] at hbx
  obtain ⟨_, hbx⟩ := hbx
  have tup : ∀ Y, VR Y β N w (.tup []) (.tuple #[]) := fun Y => VR.tup_iff.2 ⟨#[], rfl, by unfold VRs; trivial⟩
  rcases h with ⟨hβ, hv, rfl, rfl, _⟩ | ⟨cc, k, hβ, hv, hk, _, arr0, e0, fz0, ha0, hsz0⟩
  · refine ⟨.tuple #[], w, .inl ?_, ?_⟩
    · simp [execOp, ho, resolve, hc, ha', ht', invoke, builtin, Builtin.clear_, hv, run_underlying hu]
    · have hl0 : l = [] := by
        rcases hbx with ⟨_, g⟩ | ⟨c', arr, e', g1, _⟩
        · exact g
        · rw [hβ] at g1; cases g1
      subst hl0
      have hsame : updL L b (.arr ty (splice [] 0 (List.replicate 0 ty.dflt)) true) = L := by
        funext q
        unfold updL
        split
        · rename_i h; rw [h, hL]; simp [splice]
        · rfl
      rw [hsame]
      exact Step.same hS (tup _)
  · rcases hbx with ⟨g1, _⟩ | ⟨c', arr, e', g1, g2, g3, g4, g5⟩
    · rw [hβ] at g1; cases g1
    rw [hβ] at g1; cases g1
    rw [ha0] at g2; cases g2
    by_cases hl0 : len = 0
    · subst hl0
      refine ⟨.tuple #[], w, .inl ?_, ?_⟩
      · simp [execOp, ho, resolve, hc, ha', ht', invoke, builtin, Builtin.clear_, hv, run_underlying hu]
      · have hsame : updL L b (.arr ty (splice l off (List.replicate 0 ty.dflt)) true) = L := by
          funext q
          unfold updL
          split
          · rename_i h; rw [h, hL]; simp [splice]
          · rfl
        rw [hsame]
        exact Step.same hS (tup _)
    · obtain ⟨r1, r2⟩ := zeroRow (Y := All X β L) (w := w) hzs h0 hz4 hz5 len (len * ty.size) (Nat.le_refl _)
      have hzl : (Builtin.zeroCells z.cells len).toList = (List.range (len * ty.size)).map fun q => z.cells[q % z.cells.size]! := by simp [Builtin.zeroCells, hzs]
      have hll : ((List.range (len * ty.size)).map fun q => z.cells[q % z.cells.size]!).length = (List.replicate len ty.dflt).length * ty.size := by simp
      have hfit : (off + (List.replicate len ty.dflt).length) * ty.size ≤ arr0.size := Nat.le_trans (Nat.mul_le_mul_right _ (by simp; omega)) g3
      have hst := run_storeCells_cells (P := P) cc (off * ty.size) ((List.range (len * ty.size)).map fun q => z.cells[q % z.cells.size]!) 0 w
        (fun j hj => by
          rw [cell_of_arr ha0]
          rw [hll] at hj
          rw [Nat.add_mul] at hfit
          simp
          omega)
        (fun j hj => by simp [World.frozen?, ha0]) r2
      simp only [Nat.add_zero] at hst
      refine ⟨.tuple #[], w.setCells cc (off * ty.size) ((List.range (len * ty.size)).map fun q => z.cells[q % z.cells.size]!), .inl ?_, putArr hS hL hβ ha0 hfit (by omega) hll r1 fun mv => VR.tup_iff.2 ⟨#[], rfl, by unfold VRs; trivial⟩⟩
      obtain ⟨m, rfl⟩ : ∃ m, len = m + 1 := ⟨len - 1, by omega⟩
      simp [execOp, ho, resolve, hc, ha', ht', invoke, builtin, Builtin.clear_, hv, run_underlying hu, zeroValue, typeInfo, hi1, hz', hzl, hst]

end
end Go.Ev
namespace Go.Ev
set_option linter.unusedVariables false
set_option linter.unusedSimpArgs false
set_option linter.unusedSectionVars false
variable [Ctx]
section
variable {P : Program} {X : Blocks} {β : Map} {N : Nat → Prop} {w : World} {L : Looks} {al : Nat} {ρ : Operand → Value} {o : Oper}

theorem toD_isCell {B : Boxes} {a : AV} {x : D × List (Nat × Box)} (h : (toD B a).run = some x) : a.isCell = true := by
  unfold toD at h
  split at h
  · rfl
  · rfl
  · simp [M.run] at h

theorem toDs_isCell {B : Boxes} : ∀ (as : List AV) (x : List D × List (Nat × Box)), (toDs B as).run = some x → as.all AV.isCell = true
  | [], _, _ => rfl
  | a :: as, x, h => by
    simp only [toDs, M.run_bind] at h
    cases h1 : (toD B a).run with
    | none => rw [h1] at h; simp at h
    | some p =>
      rw [h1] at h
      simp only [Option.bind_some, M.run_bind] at h
      cases h2 : (toDs B as).run with
      | none => rw [h2] at h; simp at h
      | some q => simp only [List.all_cons, toD_isCell h1, toDs_isCell as q h2, Bool.and_self]

theorem cellsD_sound {B : Boxes} : ∀ (as : List AV) (xs : List (List D)) (ws : List (Nat × Box)) (us : List Value) (L1 : Looks), SimB X β N w L1 → Cl (look B) L1 → (cellsD B as).run = some (xs, ws) → VRs (All X β L1) β N w as us →
    SimB X β N w (updsL L1 ws) ∧ Fr (Own β L1) w (Own β (updsL L1 ws)) w ∧ Cl (look B) (updsL L1 ws) ∧ xs.length = us.length ∧
    ∀ (j : Nat) (c : List D) (u : Value), xs[j]? = some c → us[j]? = some u → VRs (All X β (updsL L1 ws)) β N w (c.map AV.d) u.cells.toList ∧ ∀ v ∈ u.cells.toList, v.oneCell' = true
  | [], xs, ws, us, L1, hS, hcl, hr, hv => by
    simp [cellsD, M.run] at hr
    obtain ⟨rfl, rfl⟩ := hr
    have := VRs.nil hv
    subst this
    exact ⟨hS, Fr.refl _ _, hcl, rfl, by simp⟩
  | a :: as, xs, ws, us, L1, hS, hcl, hr, hv => by
    obtain ⟨u, us, rfl, hu, hus⟩ := VRs.cons hv
    simp only [cellsD, M.run_bind] at hr
    cases h1 : (toDs B a.cells).run with
    | none => rw [h1] at hr; simp at hr
    | some p =>
      obtain ⟨x, w1⟩ := p
      rw [h1] at hr
      simp only [Option.bind_some, M.run_bind] at hr
      cases h2 : (cellsD B as).run with
      | none => rw [h2] at hr; simp at hr
      | some p =>
        obtain ⟨xs', w2⟩ := p
        rw [h2] at hr
        simp [M.run] at hr
        obtain ⟨rfl, rfl⟩ := hr
        obtain ⟨c1, c2⟩ := cells_VR hu (toDs_isCell _ _ h1)
        obtain ⟨a1, a2, a3, a4⟩ := toDs_sound a.cells x w1 _ L1 hS hcl h1 c1
        have mv := mv_cl (X := X) (N := N) a2
        obtain ⟨b1, b2, b3, b4, b5⟩ := cellsD_sound as xs' w2 us (updsL L1 w1) a1 a4 h2 (VRs.move mv _ _ hus)
        rw [updsL_append]
        refine ⟨b1, a2.trans b2, b3, by simp [b4], fun j c v hc hv' => ?_⟩
        cases j with
        | zero =>
          simp at hc hv'
          subst hc; subst hv'
          exact ⟨VRs.move (mv_cl (X := X) (N := N) b2) _ _ a3, c2⟩
        | succ j => exact b5 j c v (by simpa using hc) (by simpa using hv')

theorem decAll_run {t : Ty} {cs : List D} {x : t.den} (h : (decAll t cs).run = some x) : decP t cs = some (x, []) := by
  unfold decAll at h
  split at h
  · rename_i y hy; simp [M.run] at h; subst h; exact hy
  · simp [M.run] at h

theorem decP_len {t : Ty} {cs : List D} {x : t.den} (h : decP t cs = some (x, [])) {Y : Blocks} {g : Nat → Option Value} (hg : ∀ (j : Nat) (d : D), cs[j]? = some d → ∃ v, g j = some v ∧ VRd Y w d v) : cs.length = t.size ∧ RD Y w t x g := by
  obtain ⟨h1, h2, h3⟩ := decP_RD t cs x [] g h hg
  refine ⟨?_, h1⟩
  have := congrArg List.length h2
  simp at this
  omega

theorem litRow_sound {Y : Blocks} {t : Ty} : ∀ (ix : List Nat) (cs : List (List D)) (l l' : List t.den) (arr : Array Value) (ps : List (Nat × Value)), (litRow t ix cs l).run = some l' → ps.map (·.1) = ix → cs.length = ps.length →
    (∀ (j : Nat) (c : List D) (u : Nat × Value), cs[j]? = some c → ps[j]? = some u → VRs Y β N w (c.map AV.d) u.2.cells.toList) → (∀ i ∈ ix, i < l.length) → l.length * t.size ≤ arr.size → (∀ i (hi : i < l.length), RD Y w t l[i] (fun j => arr[i * t.size + j]?)) →
    ∃ arr', Instr.fill (fun i => some (i * t.size, t.size)) arr ps = some arr' ∧ arr'.size = arr.size ∧ l'.length = l.length ∧ ∀ i (hi : i < l'.length), RD Y w t l'[i] (fun j => arr'[i * t.size + j]?)
  | [], cs, l, l', arr, ps, hr, hix, hl, hv, hin, hsz, hrd => by
    have : ps = [] := by simpa using hix
    subst this
    have : cs = [] := by simpa using hl
    subst this
    simp [litRow, M.run] at hr
    subst hr
    exact ⟨arr, rfl, rfl, rfl, hrd⟩
  | i :: ix, cs, l, l', arr, ps, hr, hix, hl, hv, hin, hsz, hrd => by
    cases ps with
    | nil => simp at hix
    | cons p ps =>
      obtain ⟨i', v⟩ := p
      simp only [List.map_cons, List.cons.injEq] at hix
      obtain ⟨rfl, hix⟩ := hix
      cases cs with
      | nil => simp at hl
      | cons c cs =>
        simp only [litRow, M.run_bind] at hr
        cases h1 : (decAll t c).run with
        | none => rw [h1] at hr; simp at hr
        | some x =>
          rw [h1] at hr
          simp only [Option.bind_some] at hr
          have hd := decAll_run h1
          have hvc := hv 0 c (i', v) rfl rfl
          obtain ⟨v1, v2⟩ := (VRds_iff c _).1 hvc
          simp only [Array.length_toList] at v1
          obtain ⟨q1, q2⟩ := decP_len (w := w) (Y := Y) (g := fun j => v.cells[j]?) hd fun j d hj => by
            have hlt : j < v.cells.size := by have := (List.getElem?_eq_some_iff.1 hj).1; omega
            exact ⟨v.cells[j], Array.getElem?_eq_getElem hlt, v2 j d _ hj (by simp [hlt])⟩
          have hvs : v.cells.size = t.size := by omega
          have hi : i' < l.length := hin i' (by simp)
          have hfit : i' * t.size + v.cells.size ≤ arr.size := by
            have : (i' + 1) * t.size ≤ l.length * t.size := Nat.mul_le_mul_right _ hi
            rw [Nat.add_mul] at this; omega
          have hfold : ∀ (xs : List Value) (k off : Nat) (arr : Array Value), off + k + xs.length ≤ arr.size → (xs.zipIdx k).foldl (fun cs (c, j) => cs.setIfInBounds (off + j) c) arr = (splice arr.toList (off + k) xs).toArray := by
            intro xs
            induction xs with
            | nil => intro k off arr hk; simp [splice]
            | cons x xs ih =>
              intro k off arr hk
              simp only [List.zipIdx_cons, List.foldl_cons]
              rw [ih (k + 1) off _ (by simp at hk ⊢; omega)]
              apply Array.ext'
              apply List.ext_getElem?
              intro q
              simp only [List.length_cons] at hk
              rw [show (splice (arr.setIfInBounds (off + k) x).toList (off + (k + 1)) xs).toArray.toList = splice (arr.toList.set (off + k) x) (off + (k + 1)) xs by simp]
              rw [show (splice arr.toList (off + k) (x :: xs)).toArray.toList = splice arr.toList (off + k) (x :: xs) by simp]
              rw [splice_get _ _ _ _ (by simp; omega), splice_get _ _ _ _ (by simp; omega)]
              simp only [List.length_cons, List.getElem?_set, Array.length_toList]
              by_cases q1 : q < off + k
              · simp [q1, show q < off + (k + 1) by omega, show off + k ≠ q by omega]
              · by_cases q2 : q = off + k
                · subst q2; simp [show off + k < off + (k + 1) by omega, show off + k < arr.size by omega]
                · by_cases q3 : q < off + (k + 1) + xs.length
                  · simp [q1, show ¬ q < off + (k + 1) by omega, q3, show q < off + k + (xs.length + 1) by omega, show q - (off + k) = (q - (off + (k + 1))) + 1 by omega]
                  · simp [q1, show ¬ q < off + (k + 1) by omega, q3, show ¬ q < off + k + (xs.length + 1) by omega, show off + k ≠ q by omega]
          have hf := hfold v.cells.toList 0 (i' * t.size) arr (by simp; omega)
          rw [Nat.add_zero] at hf
          have hspl : (splice arr.toList (i' * t.size) v.cells.toList).toArray.size = arr.size := by rw [List.size_toArray, splice_length _ _ _ (by simp; omega)]; simp
          obtain ⟨arr', g1, g2, g3, g4⟩ := litRow_sound ix cs (l.set i' x) l' (splice arr.toList (i' * t.size) v.cells.toList).toArray ps hr hix (by simpa using hl)
            (fun j c' u' h1 h2 => hv (j + 1) c' u' (by simpa using h1) (by simpa using h2)) (fun q hq => by simpa using hin q (by simp [hq])) (by rw [hspl]; simpa using hsz) (fun q hq => by
              simp only [List.length_set] at hq
              have get : ∀ j, (splice arr.toList (i' * t.size) v.cells.toList).toArray[j]? = if j < i' * t.size then arr[j]? else if j < i' * t.size + t.size then v.cells[j - i' * t.size]? else arr[j]? := by
                intro j
                rw [List.getElem?_toArray, splice_get _ _ _ _ (by simp; omega)]
                simp [hvs]
              by_cases hqi : q = i'
              · subst hqi
                rw [List.getElem_set_self]
                refine q2.congr fun j hj => ?_
                rw [get, if_neg (by omega), if_pos (by omega)]
                congr 1
                omega
              · rw [List.getElem_set_ne (fun h => hqi h.symm)]
                refine (hrd q hq).congr fun j hj => ?_
                rw [get]
                by_cases hlt : q < i'
                · have : (q + 1) * t.size ≤ i' * t.size := Nat.mul_le_mul_right _ hlt
                  rw [Nat.add_mul] at this
                  rw [if_pos (by omega)]
                · have : (i' + 1) * t.size ≤ q * t.size := Nat.mul_le_mul_right _ (by omega)
                  rw [Nat.add_mul] at this
                  rw [if_neg (by omega), if_neg (by omega)])
          refine ⟨arr', ?_, g2.trans hspl, by simpa using g3, g4⟩
          unfold Instr.fill
          simp only
          rw [if_neg (by simp [hvs]; omega)]
          have hf' : (v.cells.zipIdx.foldl (fun cs x => match x with | (c, j) => cs.setIfInBounds (i' * t.size + j) c) arr) = (splice arr.toList (i' * t.size) v.cells.toList).toArray := by
            rw [← Array.foldl_toList, Array.toList_zipIdx]
            simpa using hf
          rw [← g1]
          congr 1

theorem does_lit {B : Boxes} {t e : TypeId} {n : Nat} {ps : Array (Nat × Operand)} {ty : Ty} (ho : o.op = .buildSlice t n ps) (hu : P.underlying t = some (.slice e)) (hn : sizeT P e = some ty.size) (h0 : 0 < ty.size) (hz : zeroT P e ty = true) (hsz : n * ty.size ≤ 16777216)
    (hS : SimB X β N w (look B)) (hal : ¬ N al) (htag : Ctx.tag ty e) {as : List AV} (hx : VRs (All X β (look B)) β N w as ((ps.toList.map (·.2)).map ρ)) {cs : List (List D)} {ws : List (Nat × Box)} (hc : (cellsD B as).run = some (cs, ws))
    {l : List ty.den} (hr : (litRow ty (ps.toList.map (·.1)) cs (List.replicate n ty.dflt)).run = some l) (hix : ∀ i ∈ ps.toList.map (·.1), i < n) :
    Does P o ρ w (Step X β N w (look B) al (updsL (look B) (ws ++ [(al, .arr ty l true)])) (.sr al 0 n ty.size (some n))) := by
  obtain ⟨inf, z, hi1, hz', hzs, hz4, hz5⟩ := zeroT_run hz
  have hi2 : inf.size = ty.size := by obtain ⟨i', hi', hs⟩ := sizeT_info hn; rw [hi1] at hi'; cases hi'; exact hs
  obtain ⟨a1, a2, a3, a4, a5⟩ := cellsD_sound as cs ws _ (look B) hS (Cl.refl _) hc hx
  obtain ⟨r1, r2⟩ := zeroRow (Y := All X β (updsL (look B) ws)) (w := w) hzs h0 hz4 hz5 n (n * ty.size) (Nat.le_refl _)
  have hzl : ∀ q : Nat, ((Array.range (n * ty.size)).map (fun q => z.cells[q % z.cells.size]!))[q]? = ((List.range (n * ty.size)).map fun q => z.cells[q % z.cells.size]!)[q]? := by
    intro q
    have : ((Array.range (n * ty.size)).map (fun q => z.cells[q % z.cells.size]!)).toList = (List.range (n * ty.size)).map fun q => z.cells[q % z.cells.size]! := by simp
    rw [← this, Array.getElem?_toList]
  obtain ⟨arr, g1, g2, g3, g4⟩ := litRow_sound (Y := All X β (updsL (look B) ws)) (β := β) (N := N) (w := w) (ps.toList.map (·.1)) cs (List.replicate n ty.dflt) l ((Array.range (n * ty.size)).map fun q => z.cells[q % z.cells.size]!) (ps.toList.map fun x => (x.1, ρ x.2)) hr
    (by rw [List.map_map]; rfl) (by simpa using a4) (fun j c u hc hu => by
      simp only [List.getElem?_map, Option.map_eq_some_iff] at hu
      obtain ⟨p, hp, rfl⟩ := hu
      exact (a5 j c (ρ p.2) hc (by simp [List.getElem?_map, hp])).1) (by simpa using hix) (by simp) (fun i hi => (r1 i hi).congr fun j _ => hzl _)
  refine ⟨.slice (some ⟨w.heap.size, 0, none⟩) n n, w.alloc (.cells arr e), .inl ?_, ?_⟩
  · have hbig : ¬ (2 ^ 24 < n * ty.size) := by omega
    by_cases hn0 : n * ty.size = 0
    · have harr : (Array.range (n * ty.size)).map (fun q => z.cells[q % z.cells.size]!) = #[] := by rw [hn0]; simp [Array.range_zero']
      rw [harr] at g1
      simp [execOp, ho, Instr.buildSlice, run_underlying hu, sizeOf, typeInfo, hi1, hi2, hn0, g1, newRow, Array.range_zero']
    · simp [execOp, ho, Instr.buildSlice, run_underlying hu, sizeOf, typeInfo, zeroValue, hi1, hz', hi2, hn0, hbig, g1, newRow]
  · rw [updsL_append]
    have st := newArr (w := w) (w0 := w) (L := updsL (look B) ws) (al := al) (l := l) (us := arr) (e := e) (len := n) (k := n) (cap := some n) rfl a1 rfl rfl rfl hal htag h0 (Nat.le_refl _) (fun k' h => by cases h; rfl) (by rw [g2]; simp) (by rw [g2, g3]; simp) g4
    obtain ⟨β', N', s1, s2, s3, s4, s5⟩ := st
    exact ⟨β', N', s1, s2, a2.trans s3, s4, s5⟩

end
end Go.Ev
