/- Arguments of plain types, opened: what reads as a datum is plain data. No condition. -/
import Derived.Test.YtahdcmicifokgaaDoorQF3
import Derived.Deep.Slices
import Derived.ChangeArms
import Derived.ChangeShapes
import Derived.ChangeOld
namespace Go.Ev
set_option linter.unusedVariables false
set_option linter.unusedSimpArgs false
set_option linter.unusedSectionVars false
open Go.ChangeShapes

mutual
def opnB (P : Program) : Nat → TypeId → Ty → Bool
  | 0, _, _ => false
  | n + 1, T, t => P.cellsOf T == t.size && (match P.underlying T with
    | some (.int k) => (match t with | .int k' => decide (k = k') | _ => false)
    | some .bool => (match t with | .bool => true | _ => false)
    | some .string => (match t with | .str => true | _ => false)
    | some (.slice e) => (match t with | .sl u => Nat.blt 0 u.size && opnB P n e u | _ => false)
    | some (.struct fs) => flsB P n 0 fs.toList t
    | _ => false)
def flsB (P : Program) : Nat → Nat → List Field → Ty → Bool
  | 0, _, _, _ => false
  | _ + 1, _, [], t => (match t with | .unit => true | _ => false)
  | n + 1, off, [f], t => f.offset == off && opnB P n f.type t
  | n + 1, off, f :: g :: fs, t => (match t with | .pair a b => f.offset == off && opnB P n f.type a && flsB P n (off + a.size) (g :: fs) b | _ => false)
end

def Ty.ok : (t : Ty) → t.den → Prop
  | .int k, n => (Lit.int k n).wf = true
  | .bool, _ => True
  | .str, l => l.length ≤ maxLen
  | .unit, _ => True
  | .sl t, l => l.length ≤ maxLen ∧ ∀ x ∈ l, t.ok x
  | .pair a b, x => a.ok x.1 ∧ b.ok x.2
  | .rose _, _ => True

theorem choose_list {α : Type} {len : Nat} {p : Nat → α → Prop} (h : ∀ i, i < len → ∃ x, p i x) : ∃ l : List α, l.length = len ∧ ∀ i (hi : i < l.length), p i l[i] := by
  induction len with
  | zero => exact ⟨[], rfl, fun i hi => by simp at hi⟩
  | succ k ih =>
    obtain ⟨l, hl, hc⟩ := ih (fun i hi => h i (by omega))
    obtain ⟨x, hx⟩ := h k (by omega)
    refine ⟨l ++ [x], by simp [hl], fun i hi => ?_⟩
    rcases Nat.lt_or_ge i k with hlt | hge
    · rw [List.getElem_append_left (by omega)]; exact hc i (by omega)
    · have : i = k := by simp at hi; omega
      subst this
      rw [List.getElem_append_right (by omega)]
      simpa [hl] using hx

section
variable {H : Type} {enc : TypeId × Value → H} {P : Program} {W : World} {base : Nat} {spare : Nat → Bool} {held : Bool}

theorem fls_open {n0 : Nat} {cs : List Value} (ih : ∀ n T t c x, opnB P n T t = true → DataW.trod enc P W base spare held n0 T c = some x → ∃ v : t.den, t.ok v ∧ RD (fun _ => False) W t v (fun j => c[j]?) ∧ c.length = t.size) :
    ∀ (n : Nat) (fs : List Field) (off : Nat) (t : Ty), flsB P n off fs t = true → (∀ f ∈ fs, ∃ x, DataW.trod enc P W base spare held n0 f.type ((cs.drop f.offset).take (P.cellsOf f.type)) = some x) →
      ∃ v : t.den, t.ok v ∧ RD (fun _ => False) W t v (fun j => cs[off + j]?)
  | 0, _, _, _, h, _ => by simp [flsB] at h
  | n + 1, [], off, t, h, _ => by
    unfold flsB at h
    split at h
    · exact ⟨(), trivial, .unit⟩
    · cases h
  | n + 1, [f], off, t, h, hf => by
    unfold flsB at h
    simp only [Bool.and_eq_true, beq_iff_eq] at h
    obtain ⟨ho, h⟩ := h
    obtain ⟨x, hx⟩ := hf f (List.mem_singleton_self _)
    obtain ⟨v, hv, hr, hlen⟩ := ih n f.type t _ x h hx
    refine ⟨v, hv, hr.congr fun j hj => ?_⟩
    have : j < P.cellsOf f.type := by
      simp only [List.length_take, List.length_drop] at hlen; omega
    rw [List.getElem?_take_of_lt this, List.getElem?_drop, ho]
  | n + 1, f :: g :: fs, off, t, h, hf => by
    unfold flsB at h
    split at h
    · rename_i a b
      simp only [Bool.and_eq_true, beq_iff_eq] at h
      obtain ⟨⟨ho, h1⟩, h2⟩ := h
      obtain ⟨x, hx⟩ := hf f (List.mem_cons_self ..)
      obtain ⟨v, hv, hr, hlen⟩ := ih n f.type a _ x h1 hx
      obtain ⟨u, hu, hs⟩ := fls_open ih n (g :: fs) (off + a.size) b h2 (fun f' hf' => hf f' (List.mem_cons_of_mem _ hf'))
      refine ⟨(v, u), ⟨hv, hu⟩, .pair (hr.congr fun j hj => ?_) (hs.congr fun j hj => ?_)⟩
      · have : j < P.cellsOf f.type := by
          simp only [List.length_take, List.length_drop] at hlen; omega
        rw [List.getElem?_take_of_lt this, List.getElem?_drop, ho]
      · congr 1; omega
    · cases h

theorem opn_open : ∀ (fuel n : Nat) (T : TypeId) (t : Ty) (cs : List Value) (x : DataW H × List MemPlace), opnB P n T t = true → DataW.trod enc P W base spare held fuel T cs = some x →
    ∃ v : t.den, t.ok v ∧ RD (fun _ => False) W t v (fun j => cs[j]?) ∧ cs.length = t.size := by
  intro fuel
  induction fuel using Nat.strongRecOn with
  | _ fuel IH =>
    intro n T t cs x hB hT
    cases n with
    | zero => simp [opnB] at hB
    | succ n =>
      unfold opnB at hB
      simp only [Bool.and_eq_true, beq_iff_eq] at hB
      obtain ⟨hsz, hB⟩ := hB
      split at hB
      · rename_i k hu
        split at hB
        · rename_i k'
          have := of_decide_eq_true hB
          subst this
          obtain ⟨m, rfl, _, hw⟩ := DataW.trod_int hu hT
          exact ⟨m, hw, .int rfl, rfl⟩
        · cases hB
      · rename_i hu
        split at hB
        · obtain ⟨b, rfl, _⟩ := DataW.trod_bool hu hT
          exact ⟨b, trivial, .bool rfl, rfl⟩
        · cases hB
      · rename_i hu
        split at hB
        · obtain ⟨s, rfl, _, hw⟩ := DataW.trod_string hu hT
          exact ⟨s.data.toList, by show s.data.toList.length ≤ maxLen; rw [Array.length_toList]; exact hw, .str rfl, rfl⟩
        · cases hB
      · rename_i e hu
        split at hB
        · rename_i u
          simp only [Bool.and_eq_true] at hB
          obtain ⟨h0, hB⟩ := hB
          have h0 : 0 < u.size := by rw [Nat.blt, Nat.ble_eq] at h0; exact h0
          rcases DataW.trod_slice hu hT with ⟨rfl, _⟩ | ⟨a, len, cap, elems, rest, m, hfu, rfl, _, hb, hl, hcap, hlen, hel, _, _⟩
          · exact ⟨[], ⟨by simp, fun x hx => by cases hx⟩, .nil rfl, rfl⟩
          · rcases Nat.eq_zero_or_pos len with h0' | hpos
            · subst h0'
              exact ⟨[], ⟨by simp, fun x hx => by cases hx⟩, .emp a cap rfl, rfl⟩
            · have hE : ∀ i, i < len → ∃ v : u.den, u.ok v ∧ RD (fun _ => False) W u v (fun j => W.cell? (a.add (i * u.size + j))) := by
                intro i hi
                obtain ⟨c, hc, ht⟩ := Option.bind_eq_some_iff.1 ((hel i hi).trans (List.getElem?_eq_getElem (by omega)))
                obtain ⟨v, hv, hr, hlen'⟩ := IH m (by omega) n e u c _ hB ht
                obtain ⟨_, hcl, hcell⟩ := World.cells?_some hc
                refine ⟨v, hv, hr.congr fun j hj => ?_⟩
                have hse : P.cellsOf e = u.size := by rw [← hcl, hlen']
                rw [hse] at hcell
                rw [← hcell j hj, Go.Deep.add_add]
              obtain ⟨ls, hls, hp⟩ := choose_list hE
              have hspot : a.spot = none ∧ a.block < W.heap.size := by
                obtain ⟨v, hv, hr⟩ := hE 0 hpos
                obtain ⟨j, w, hj⟩ := hr.some h0
                simp only [Nat.zero_mul, Nat.zero_add] at hj
                have hr' := hr
                -- the first cell
                obtain ⟨v0, hv0⟩ : ∃ v0, W.cell? (a.add 0) = some v0 := by
                  have hc := RD.cells hr
                  have hlen0 : 0 < (encC u v).length := by rw [encC_length]; exact h0
                  obtain ⟨v0, h1, _⟩ := hc 0 _ (List.getElem?_eq_getElem hlen0)
                  exact ⟨v0, by simpa using h1⟩
                have e0 : a.add 0 = a := by simp [Addr.add]
                rw [e0] at hv0
                unfold World.cell? at hv0
                split at hv0
                · rename_i c e' fz hh
                  split at hv0
                  · cases hv0
                  · rename_i hs
                    exact ⟨by simpa using hs, heap_lt hh⟩
                · cases hv0
              obtain ⟨blk, off, spot⟩ := a
              simp only at hspot
              obtain ⟨rfl, hblk⟩ := hspot
              subst hls
              refine ⟨ls, ⟨by show ls.length ≤ maxLen; omega, fun x hx => ?_⟩, .sl blk off cap rfl hl hblk (fun h => h) fun i hi => ?_, rfl⟩
              · obtain ⟨i, hi, rfl⟩ := List.getElem_of_mem hx
                exact (hp i hi).1
              · refine (hp i hi).2.congr fun j hj => ?_
                rw [Addr.add_mid, Nat.add_assoc]
        · cases hB
      · rename_i fs hu
        obtain ⟨xs, m, rfl, _, hl, hlen, hf⟩ := DataW.trod_struct hu hT
        obtain ⟨v, hv, hr⟩ := fls_open (cs := cs) (fun n T t c x => IH m (by omega) n T t c x) n fs.toList 0 t hB (fun f hfm => by
          obtain ⟨i, hi⟩ := List.getElem?_of_mem hfm
          have hi' : fs[i]? = some f := by simpa using hi
          have hlt : i < xs.length := by rw [hlen]; exact (Array.getElem?_eq_some_iff.1 hi').1
          exact ⟨xs[i], (hf i f hi').trans (List.getElem?_eq_getElem hlt)⟩)
        exact ⟨v, hv, hr.congr fun j hj => by simp, by rw [hl, hsz]⟩
      · cases hB

def argAV (agg : Bool) (t : Ty) (x : t.den) : AV := if agg then .agg ((encC t x).map .d) else match encC t x with
  | [d] => .d d
  | _ => .top

variable [Ctx]

theorem arg_open {n : Nat} {T : TypeId} {t : Ty} (hB : opnB P n T t = true) {v : Value} {d : DataW H} {ps : List MemPlace} (h : DataW.Trod enc P W base spare held T v d ps) (agg : Bool)
    (hv : if agg then ∃ cs, v = .agg cs else ∃ a c, v.cells.toList = [a] ∧ v = a ∧ c = t.size ∧ c = 1) {β : Map} {N : Nat → Prop} :
    ∃ x : t.den, t.ok x ∧ VR (fun _ => False) β N W (argAV agg t x) v := by
  obtain ⟨fuel, hf⟩ := h
  obtain ⟨x, h1, h2, h3⟩ := opn_open fuel n T t _ _ hB hf
  refine ⟨x, h1, ?_⟩
  cases agg with
  | true =>
    obtain ⟨cs, rfl⟩ := hv
    show VR _ _ _ _ (.agg ((encC t x).map .d)) _
    refine VR.agg_iff.2 ⟨cs, rfl, VRs.mk _ _ ?_ fun j a w ha hw => ?_⟩
    · rw [List.length_map, encC_length]; exact h3.symm
    · rw [List.getElem?_map] at ha
      obtain ⟨q, hq, rfl⟩ := Option.map_eq_some_iff.1 ha
      obtain ⟨u, hu, hr⟩ := RD.cells h2 j q hq
      have : w = u := Option.some.inj (hw.symm.trans hu)
      subst this
      exact VR.d_iff.2 hr
  | false =>
    obtain ⟨a, c, hc, rfl, rfl, hs⟩ := hv
    have hl := encC_length t x
    rw [hs] at hl
    unfold argAV
    simp only [Bool.false_eq_true, if_false]
    match he : encC t x, hl with
    | [q], _ =>
      obtain ⟨u, hu, hr⟩ := RD.cells h2 0 q (by rw [he]; rfl)
      rw [hc] at hu
      have : v = u := by simpa using hu
      subst this
      exact VR.d_iff.2 hr

theorem okWide_shape {r : Reach} {T : TypeId} {v : Value} {n : Nat} {t : Ty} (hB : opnB P n T t = true) (h : Value.okWide P W r base T v) :
    if aggT P T then ∃ cs, v = .agg cs else ∃ a c, v.cells.toList = [a] ∧ v = a ∧ c = t.size ∧ c = 1 := by
  cases n with
  | zero => simp [opnB] at hB
  | succ n =>
    unfold opnB at hB
    simp only [Bool.and_eq_true, beq_iff_eq] at hB
    obtain ⟨_, hB⟩ := hB
    unfold Value.okWide at h
    unfold aggT
    split at hB
    · rename_i k hu
      split at hB
      · simp only [hu, Cell.okWide] at h ⊢
        cases v <;> simp_all [Cell.ok, Value.cells, Ty.size]
      · cases hB
    · rename_i hu
      split at hB
      · simp only [hu, Cell.okWide] at h ⊢
        cases v <;> simp_all [Cell.ok, Value.cells, Ty.size]
      · cases hB
    · rename_i hu
      split at hB
      · simp only [hu, Cell.okWide] at h ⊢
        cases v <;> simp_all [Cell.ok, Value.cells, Ty.size]
      · cases hB
    · rename_i e hu
      split at hB
      · simp only [hu, Cell.okWide] at h ⊢
        cases v <;> simp_all [Cell.ok, Value.cells, Ty.size]
      · cases hB
    · rename_i fs hu
      simp only [hu] at h ⊢
      obtain ⟨cs, rfl, _⟩ := h
      exact ⟨cs, rfl⟩
    · cases hB

theorem arg_at {r : Reach} {base' : Nat} {n : Nat} {T : TypeId} {t : Ty} {agg : Bool} (hB : opnB P n T t = true) (ha : aggT P T = agg) {v : Value} {d : DataW H} {ps : List MemPlace} (hval : Value.okWide P W r base' T v) (h : DataW.Trod enc P W base spare held T v d ps) :
    ∃ x : t.den, t.ok x ∧ VR (fun _ => False) (fun _ => none) (fun _ => False) W (argAV agg t x) v := by
  have := okWide_shape (W := W) (base := base') hB hval
  rw [ha] at this
  exact arg_open hB h agg this

end

variable [Ctx]
section
variable {P : Program} [TagOK P]

theorem law_atC {f : FuncId} {g : List AV → Boxes → M (AV × Boxes)} (hg : CallAt P f g) {as : List AV} {b : Bool} {B' : Boxes}
    (h : (g as []).run = some (.d (.bool b), B')) (W : World) (hI : Ctx.inv W ∧ ∀ c, Ctx.tab c → c < W.heap.size) (vs : List Value) (hv : VRs (fun _ => False) (fun _ => none) (fun _ => False) W as vs) :
    Calls P f vs.toArray W fun e w' => e = .returned (.bool b) ∧ RowKit.Below W.heap.size W w' := by
  obtain ⟨_, _, h3⟩ := hg as [] _ _ h
  have hv' : VRs (All (fun _ => False) (fun _ => none) (look [])) (fun _ => none) (· < ([] : Boxes).length) W as vs := by
    refine VRs.move ?_ _ _ hv
    exact ⟨Nat.le_refl _, fun c _ hc => ⟨fun h => h.elim hc own_empty, rfl⟩, fun c arr e fz h => ⟨arr, fz, h, rfl⟩, fun b hb => hb.elim, fun b hb => hb.elim⟩
  refine (h3 (fun _ => False) (fun _ => none) W vs (SimB.empty (fun c h => h.elim) hI) hv').mono ?_
  rintro e w' ⟨v, β', rfl, _, k2, k3, _⟩
  have : v = .bool b := VR.d_iff.1 k2
  subst this
  exact ⟨rfl, k3.os, k3.tape, k3.output, k3.size, fun k hk => (k3.blk k hk fun h => own_empty h).2⟩

theorem law_at (hm : P.follows .mixedOrders = true) {kinds : FuncId → Bool × Bool} {S : FuncId → Option (List AV → Boxes → M (AV × Boxes))} (hS : ∀ f s, S f = some s → CallAt P f s) {n : Nat} {f : FuncId} {as : List AV} {b : Bool} {B' : Boxes}
    (h : (evCall (fnsOf P kinds) S n f as []).run = some (.d (.bool b), B')) (W : World) (hI : Ctx.inv W ∧ ∀ c, Ctx.tab c → c < W.heap.size) (vs : List Value) (hv : VRs (fun _ => False) (fun _ => none) (fun _ => False) W as vs) :
    Calls P f vs.toArray W fun e w' => e = .returned (.bool b) ∧ RowKit.Below W.heap.size W w' := by
  obtain ⟨_, _, h3⟩ := evCall_at hm kinds S hS n f as [] _ _ h
  have hv' : VRs (All (fun _ => False) (fun _ => none) (look [])) (fun _ => none) (· < ([] : Boxes).length) W as vs := by
    refine VRs.move ?_ _ _ hv
    exact ⟨Nat.le_refl _, fun c _ hc => ⟨fun h => h.elim hc own_empty, rfl⟩, fun c arr e fz h => ⟨arr, fz, h, rfl⟩, fun b hb => hb.elim, fun b hb => hb.elim⟩
  refine (h3 (fun _ => False) (fun _ => none) W vs (SimB.empty (fun c h => h.elim) hI) hv').mono ?_
  rintro e w' ⟨v, β', rfl, _, k2, k3, _⟩
  have : v = .bool b := VR.d_iff.1 k2
  subst this
  exact ⟨rfl, k3.os, k3.tape, k3.output, k3.size, fun k hk => (k3.blk k hk fun h => own_empty h).2⟩

end
end Go.Ev
