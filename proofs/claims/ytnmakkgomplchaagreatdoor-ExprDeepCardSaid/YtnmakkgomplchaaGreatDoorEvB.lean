/- Abstract values and boxes of an evaluator of Go code, and how they lie in the model's memory. No condition. -/
import Derived.Test.YtnmakkgomplchaaGreatDoorEvA
namespace Go.Ev
set_option linter.unusedVariables false
set_option linter.unusedSimpArgs false
set_option linter.unusedSectionVars false

/-- What is known of where code runs: which types' numbers rows bear, and what the library's tables hold. -/
class Ctx where
  tag : Ty → TypeId → Prop
  tab : Blocks
  inv : World → Prop
  stays : ∀ w w' : World, (∀ c, tab c → w'.heap[c]? = w.heap[c]?) → inv w → inv w'

variable [Ctx]

/-- An abstract value. 'sr': a slice of a box that holds a row (from 'off' on, 'len' elements of 'sz' cells; 'cap': the capacity, where it is known). 'ptr', 'eptr': a pointer into a box.
'cptr': a pointer at plain cells that nobody writes. 'snil': nil, within a box of a known type; 'ifc': an interface that holds something of a type. -/
inductive AV where
  | top
  | d (x : D)
  | sr (b off len sz : Nat) (cap : Option Nat)
  | ptr (b off : Nat)
  | eptr (b i sz off : Nat)
  | cptr (cs : List D) (off : Nat)
  | agg (cs : List AV)
  | tup (vs : List AV)
  | fn (f : FuncId) (caps : List AV)
  | snil (b : Nat) (T : TypeId)
  | ifc (T : TypeId)

/-- What a block of our own holds. -/
inductive Box where
  | dead
  | cells (l : List AV)
  | arr (t : Ty) (l : List t.den) (live : Bool)

def Box.live : Box → Bool
  | .dead => false
  | .cells _ => true
  | .arr _ _ m => m

/-- Where the boxes lie. -/
abbrev Map := Nat → Option Nat

def srOK (β : Map) (N : Nat → Prop) (w : World) (b off len sz : Nat) (cap : Option Nat) (v : Value) : Prop :=
  N b ∧ 0 < sz ∧ ((β b = none ∧ v = .slice none 0 0 ∧ off = 0 ∧ len = 0 ∧ cap = none) ∨
    ∃ c k, β b = some c ∧ v = .slice (some ⟨c, off * sz, none⟩) len k ∧ len ≤ k ∧ (∀ k', cap = some k' → k = k') ∧ ∃ arr e fz, w.heap[c]? = some (.cells arr e fz) ∧ (off + k) * sz ≤ arr.size)

def cpOK (X : Blocks) (w : World) (cs : List D) (off : Nat) (v : Value) : Prop :=
  ∃ c base, c < w.heap.size ∧ ¬ X c ∧ v = .pointer (some ⟨c, base + off, none⟩) ∧ ∀ j d, cs[j]? = some d → ∃ u, w.cell? ⟨c, base + j, none⟩ = some u ∧ VRd X w d u

mutual
def VR (X : Blocks) (β : Map) (N : Nat → Prop) (w : World) : AV → Value → Prop
  | .top, _ => True
  | .d x, v => VRd X w x v
  | .sr b off len sz cap, v => srOK β N w b off len sz cap v
  | .ptr b off, v => N b ∧ ∃ c, β b = some c ∧ v = .pointer (some ⟨c, off, none⟩)
  | .eptr b i sz off, v => N b ∧ ∃ c, β b = some c ∧ v = .pointer (some ⟨c, i * sz + off, none⟩)
  | .cptr cs off, v => cpOK X w cs off v
  | .agg cs, v => ∃ vs, v = .agg vs ∧ VRs X β N w cs vs.toList
  | .tup cs, v => ∃ vs, v = .tuple vs ∧ VRs X β N w cs vs.toList
  | .fn f cs, v => ∃ vs, v = .func (.func f) #[] vs ∧ VRs X β N w cs vs.toList
  | .snil b T, v => N b ∧ v = .pointer none ∧ ∃ c arr fz, β b = some c ∧ w.heap[c]? = some (.cells arr T fz)
  | .ifc T, v => ∃ u, v = .iface T u
def VRs (X : Blocks) (β : Map) (N : Nat → Prop) (w : World) : List AV → List Value → Prop
  | [], [] => True
  | a :: as, v :: vs => VR X β N w a v ∧ VRs X β N w as vs
  | _, _ => False
end

/-- What a step does to where things lie. -/
structure Mv (X : Blocks) (β : Map) (N : Nat → Prop) (w : World) (X' : Blocks) (β' : Map) (N' : Nat → Prop) (w' : World) : Prop where
  size : w.heap.size ≤ w'.heap.size
  keep : ∀ c : Nat, c < w.heap.size → ¬ X c → ¬ X' c ∧ w'.heap[c]? = w.heap[c]?
  shape : ∀ (c : Nat) (arr : Array Value) (e : TypeId) (fz : Nat × Nat), w.heap[c]? = some (Obj.cells arr e fz) → ∃ (arr' : Array Value) (fz' : Nat × Nat), w'.heap[c]? = some (Obj.cells arr' e fz') ∧ arr'.size = arr.size
  more : ∀ b, N b → N' b
  same : ∀ b, N b → β' b = β b

theorem srOK.move {X : Blocks} {β : Map} {N : Nat → Prop} {w : World} {X' : Blocks} {β' : Map} {N' : Nat → Prop} {w' : World} (m : Mv X β N w X' β' N' w')
    {b off len sz : Nat} {cap : Option Nat} {v : Value} (h : srOK β N w b off len sz cap v) : srOK β' N' w' b off len sz cap v := by
  obtain ⟨hb, hs, h⟩ := h
  refine ⟨m.more b hb, hs, ?_⟩
  rw [m.same b hb]
  rcases h with h | ⟨c, k, h1, h2, h3, h4, arr, e, fz, h5, h6⟩
  · exact .inl h
  · obtain ⟨arr', fz', h7, h8⟩ := m.shape c arr e _ h5
    exact .inr ⟨c, k, h1, h2, h3, h4, arr', e, fz', h7, by rw [h8]; exact h6⟩

theorem cpOK.move {X : Blocks} {w : World} {X' : Blocks} {w' : World} (hz : w.heap.size ≤ w'.heap.size) (hf : ∀ c, c < w.heap.size → ¬ X c → ¬ X' c ∧ w'.heap[c]? = w.heap[c]?)
    {cs : List D} {off : Nat} {v : Value} (h : cpOK X w cs off v) : cpOK X' w' cs off v := by
  obtain ⟨c, base, hlt, hx, hv, hc⟩ := h
  refine ⟨c, base, Nat.lt_of_lt_of_le hlt hz, (hf c hlt hx).1, hv, fun j d hd => ?_⟩
  obtain ⟨u, hu, hr⟩ := hc j d hd
  exact ⟨u, by rw [cell_of_block (hf c hlt hx).2]; exact hu, hr.move hz hf⟩

mutual
theorem VR.move' {X : Blocks} {β : Map} {N : Nat → Prop} {w : World} {X' : Blocks} {β' : Map} {N' : Nat → Prop} {w' : World} (m : Mv X β N w X' β' N' w') :
    ∀ (a : AV) (v : Value), VR X β N w a v → VR X' β' N' w' a v
  | .top, _, _ => by unfold VR; trivial
  | .d x, v, h => by unfold VR at h ⊢; exact h.move m.size m.keep
  | .sr b off len sz cap, v, h => by unfold VR at h ⊢; exact h.move m
  | .ptr b off, v, h => by
    unfold VR at h ⊢
    obtain ⟨hb, c, h1, h2⟩ := h
    exact ⟨m.more b hb, c, by rw [m.same b hb]; exact h1, h2⟩
  | .eptr b i sz off, v, h => by
    unfold VR at h ⊢
    obtain ⟨hb, c, h1, h2⟩ := h
    exact ⟨m.more b hb, c, by rw [m.same b hb]; exact h1, h2⟩
  | .cptr cs off, v, h => by unfold VR at h ⊢; exact h.move m.size m.keep
  | .agg cs, v, h => by
    unfold VR at h ⊢
    obtain ⟨vs, h1, h2⟩ := h
    exact ⟨vs, h1, VRs.move m cs _ h2⟩
  | .tup cs, v, h => by
    unfold VR at h ⊢
    obtain ⟨vs, h1, h2⟩ := h
    exact ⟨vs, h1, VRs.move m cs _ h2⟩
  | .fn f cs, v, h => by
    unfold VR at h ⊢
    obtain ⟨vs, h1, h2⟩ := h
    exact ⟨vs, h1, VRs.move m cs _ h2⟩
  | .snil b T, v, h => by
    unfold VR at h ⊢
    obtain ⟨hb, hv, c, arr, fz, h1, h2⟩ := h
    obtain ⟨arr', fz', h3, _⟩ := m.shape c arr T fz h2
    exact ⟨m.more b hb, hv, c, arr', fz', by rw [m.same b hb]; exact h1, h3⟩
  | .ifc T, v, h => by unfold VR at h ⊢; exact h
theorem VRs.move {X : Blocks} {β : Map} {N : Nat → Prop} {w : World} {X' : Blocks} {β' : Map} {N' : Nat → Prop} {w' : World} (m : Mv X β N w X' β' N' w') :
    ∀ (as : List AV) (vs : List Value), VRs X β N w as vs → VRs X' β' N' w' as vs
  | [], [], _ => by unfold VRs; trivial
  | [], _ :: _, h => by unfold VRs at h; exact h.elim
  | _ :: _, [], h => by unfold VRs at h; exact h.elim
  | a :: as, v :: vs, h => by
    unfold VRs at h ⊢
    exact ⟨VR.move' m a v h.1, VRs.move m as vs h.2⟩
end

theorem VR.move {X : Blocks} {β : Map} {N : Nat → Prop} {w : World} {X' : Blocks} {β' : Map} {N' : Nat → Prop} {w' : World} {a : AV} {v : Value} (h : VR X β N w a v) (m : Mv X β N w X' β' N' w') :
    VR X' β' N' w' a v := VR.move' m a v h

theorem VRs.len {X : Blocks} {β : Map} {N : Nat → Prop} {w : World} : ∀ (as : List AV) (vs : List Value), VRs X β N w as vs → as.length = vs.length
  | [], [], _ => rfl
  | [], _ :: _, h => by unfold VRs at h; exact h.elim
  | _ :: _, [], h => by unfold VRs at h; exact h.elim
  | a :: as, v :: vs, h => by unfold VRs at h; simp [VRs.len as vs h.2]

theorem VRs.get {X : Blocks} {β : Map} {N : Nat → Prop} {w : World} : ∀ (as : List AV) (vs : List Value), VRs X β N w as vs → ∀ (j : Nat) (a : AV) (v : Value), as[j]? = some a → vs[j]? = some v → VR X β N w a v
  | [], [], _ => fun j a v h _ => by simp at h
  | [], _ :: _, h => by unfold VRs at h; exact h.elim
  | _ :: _, [], h => by unfold VRs at h; exact h.elim
  | a :: as, v :: vs, h => by
    unfold VRs at h
    intro j a' v' ha hv
    cases j with
    | zero => simp at ha hv; subst ha; subst hv; exact h.1
    | succ j => exact VRs.get as vs h.2 j a' v' (by simpa using ha) (by simpa using hv)

theorem VRs.mk {X : Blocks} {β : Map} {N : Nat → Prop} {w : World} : ∀ (as : List AV) (vs : List Value), as.length = vs.length → (∀ (j : Nat) (a : AV) (v : Value), as[j]? = some a → vs[j]? = some v → VR X β N w a v) → VRs X β N w as vs
  | [], [], _, _ => by unfold VRs; trivial
  | [], _ :: _, h, _ => by simp at h
  | _ :: _, [], h, _ => by simp at h
  | a :: as, v :: vs, h, g => by
    unfold VRs
    exact ⟨g 0 a v rfl rfl, VRs.mk as vs (by simpa using h) fun j a' v' ha hv => g (j + 1) a' v' (by simpa using ha) (by simpa using hv)⟩

/-- Boxes by their numbers. -/
abbrev Looks := Nat → Box

/-- The blocks that boxes own. -/
def Own (β : Map) (L : Looks) : Blocks := fun c => ∃ b, (L b).live = true ∧ β b = some c

def All (X : Blocks) (β : Map) (L : Looks) : Blocks := fun c => X c ∨ Own β L c

/-- How a box lies in memory. -/
def BoxR (X : Blocks) (β : Map) (N : Nat → Prop) (w : World) (b : Nat) : Box → Prop
  | .dead => True
  | .cells l => ∃ (c : Nat) (arr : Array Value) (e : TypeId), β b = some c ∧ w.heap[c]? = some (.cells arr e (0, 0)) ∧ arr.size = l.length ∧
      ∀ (j : Nat) (a : AV) (v : Value), l[j]? = some a → arr[j]? = some v → VR X β N w a v ∧ v.oneCell' = true
  | .arr t l m => 0 < t.size ∧ ((β b = none ∧ l = []) ∨
      ∃ (c : Nat) (arr : Array Value) (e : TypeId), β b = some c ∧ w.heap[c]? = some (.cells arr e (0, 0)) ∧ l.length * t.size ≤ arr.size ∧ ((m = false → ¬ X c) ∧ Ctx.tag t e) ∧
        ∀ i (hi : i < l.length), RD X w t l[i] (fun j => arr[i * t.size + j]?))

/-- The heap. X: blocks that are neither read nor written here; N: the names that are taken. -/
structure SimB (X : Blocks) (β : Map) (N : Nat → Prop) (w : World) (L : Looks) : Prop where
  apart : ∀ c, Own β L c → ¬ X c
  inj : ∀ b b' c, (L b).live = true → (L b').live = true → β b = some c → β b' = some c → b = b'
  box : ∀ b, BoxR (All X β L) β N w b (L b)
  dom : ∀ b, L b ≠ .dead → N b
  old : ∀ c, X c → c < w.heap.size
  tabs : Ctx.inv w ∧ ∀ c, Ctx.tab c → c < w.heap.size ∧ ¬ Own β L c

theorem SimB.tabs' {X : Blocks} {β β' : Map} {N : Nat → Prop} {w w' : World} {L L' : Looks} (h : SimB X β N w L) (hf : Fr (Own β L) w (Own β' L') w') : Ctx.inv w' ∧ ∀ c, Ctx.tab c → c < w'.heap.size ∧ ¬ Own β' L' c :=
  ⟨Ctx.stays w w' (fun c hc => (hf.blk c (h.tabs.2 c hc).1 (h.tabs.2 c hc).2).2) h.tabs.1, fun c hc => ⟨Nat.lt_of_lt_of_le (h.tabs.2 c hc).1 hf.size, (hf.blk c (h.tabs.2 c hc).1 (h.tabs.2 c hc).2).1⟩⟩

theorem BoxR.move {X : Blocks} {β : Map} {N : Nat → Prop} {w : World} {X' : Blocks} {β' : Map} {N' : Nat → Prop} {w' : World} (m : Mv X β N w X' β' N' w')
    {b : Nat} {x : Box} (h : BoxR X β N w b x) (hb : N b) (hl : ∀ c, β b = some c → x ≠ .dead → w'.heap[c]? = w.heap[c]?) : BoxR X' β' N' w' b x := by
  cases x with
  | dead => trivial
  | cells l =>
    obtain ⟨c, arr, e, h1, h2, h3, h4⟩ := h
    exact ⟨c, arr, e, by rw [m.same b hb]; exact h1, by rw [hl c h1 (by simp)]; exact h2, h3, fun j a v ha hv => ⟨(h4 j a v ha hv).1.move m, (h4 j a v ha hv).2⟩⟩
  | arr t l q =>
    obtain ⟨h0, h⟩ := h
    refine ⟨h0, ?_⟩
    rcases h with h | ⟨c, arr, e, h1, h2, h3, h4, h5⟩
    · exact .inl (by rw [m.same b hb]; exact h)
    · exact .inr ⟨c, arr, e, by rw [m.same b hb]; exact h1, by rw [hl c h1 (by simp)]; exact h2, h3, ⟨fun hq => (m.keep c (heap_lt h2) (h4.1 hq)).1, h4.2⟩, fun i hi => (h5 i hi).move m.size m.keep _ fun _ _ _ e => e⟩

end Go.Ev
