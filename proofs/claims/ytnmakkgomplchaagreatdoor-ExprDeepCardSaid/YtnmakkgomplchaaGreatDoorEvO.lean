/- The evaluator's operations are the model's: append, literals, clear, len. No condition. -/
import Derived.Test.YtnmakkgomplchaaGreatDoorEvN
namespace Go.Ev
set_option linter.unusedVariables false
set_option linter.unusedSimpArgs false
set_option linter.unusedSectionVars false
variable [Ctx]
section
variable {P : Program} {X : Blocks} {β : Map} {N : Nat → Prop} {w : World} {L : Looks} {al : Nat} {ρ : Operand → Value} {o : Oper}

/-- The second operand's type is no number. -/
def NoInt (P : Program) (u : TypeId) : Prop := (∃ e, P.underlying u = some (.slice e)) ∨ P.underlying u = some .string

theorem run_append_grow' (t u ty e : TypeId) (i : TypeInfo) (z : Value) (ht : P.underlying t = some (.slice e)) (hu : NoInt P u) (hi : P.info? e = some i) (hz : i.zero = some z)
    (base : Option Addr) (sLen sCap n : Nat) (olds news : Array Value) (x : Value) (hold : (Builtin.firstCells i.size sLen (.slice base sLen sCap)).run P w.drew = .ok olds w.drew) (hlen : ∀ w1, (Builtin.lenOf x).run P w1 = .ok n w1)
    (hnew : (Builtin.firstCells i.size n x).run P w.drew = .ok news w.drew) (hg : sCap < sLen + n) (h63 : sLen + n ≤ 70368744177664) (hfit : (sLen + n) * i.bytes ≤ 140737488355328) :
    (Builtin.append_ #[t, u] ty #[.slice base sLen sCap, x]).run P w =
      .ok (.slice (some ⟨w.heap.size, 0, none⟩) (sLen + n) (grownCap w (sLen + n) sCap e))
        (w.drew.alloc (.cells (olds ++ news ++ Builtin.zeroCells z.cells (grownCap w (sLen + n) sCap e - (sLen + n))) e)) := by
  have hn : ¬ (sLen + n ≤ sCap) := by omega
  have h63' : ¬ (9223372036854775807 < ((sLen : Int) + (n : Int))) := by omega
  have h48' : ¬ (281474976710656 < Builtin.nextslicecap (sLen + n) sCap * i.bytes) := by have := growslice_fits hg hfit; omega
  rcases hu with ⟨e', hd⟩ | hd <;> simp [Builtin.append_, run_underlying ht, run_underlying hd, sizeOf, typeInfo, zeroValue, hi, hz, hlen, hn, h63', h48', Question.forced, hold, hnew, newRow, grownCap]

theorem run_append_in (t u ty e : TypeId) (i : TypeInfo) (ht : P.underlying t = some (.slice e)) (hu : NoInt P u) (hi : P.info? e = some i)
    (c off sLen sCap n : Nat) (news : List Value) (x : Value) (hlen : ∀ w1, (Builtin.lenOf x).run P w1 = .ok n w1)
    (hnew : (Builtin.firstCells i.size n x).run P w = .ok news.toArray w) (hg : sLen + n ≤ sCap) {arr : Array Value} {e' : TypeId} (ha : w.heap[c]? = some (.cells arr e' (0, 0))) (hfit : off + sLen * i.size + news.length ≤ arr.size) (h1 : ∀ v ∈ news, v.oneCell' = true) :
    (Builtin.append_ #[t, u] ty #[.slice (some ⟨c, off, none⟩) sLen sCap, x]).run P w = .ok (.slice (some ⟨c, off, none⟩) (sLen + n) sCap) (w.setCells c (off + sLen * i.size) news) := by
  have hst := run_storeCells_cells (P := P) c (off + sLen * i.size) news 0 w (fun j hj => by rw [cell_of_arr ha]; simp; omega) (fun j hj => by simp [World.frozen?, ha]) h1
  simp only [Nat.add_zero] at hst
  rcases hu with ⟨e', hd⟩ | hd <;> simp [Builtin.append_, run_underlying ht, run_underlying hd, sizeOf, typeInfo, hi, hlen, hg, hnew, Addr.add_mid, hst]

theorem run_append_nil0 (t u ty e : TypeId) (i : TypeInfo) (ht : P.underlying t = some (.slice e)) (hu : NoInt P u) (hi : P.info? e = some i) (x : Value) (hlen : ∀ w1, (Builtin.lenOf x).run P w1 = .ok 0 w1)
    {news : Array Value} (hnew : (Builtin.firstCells i.size 0 x).run P w = .ok news w) :
    (Builtin.append_ #[t, u] ty #[.slice none 0 0, x]).run P w = .ok (.slice none 0 0) w := by
  rcases hu with ⟨e', hd⟩ | hd <;> simp [Builtin.append_, run_underlying ht, run_underlying hd, sizeOf, typeInfo, hi, hlen, hnew]

theorem exec_append {c : Call} {xo yo : Operand} {t u : TypeId} (ho : o.op = .call c) (hc : c.callee = .builtin .append) (ha : c.args.toList = [xo, yo]) (ht : c.argTypes.toList = [t, u]) {v : Value} {w' : World}
    (h : (Builtin.append_ #[t, u] o.type #[ρ xo, ρ yo]).run P w = .ok v w') : (execOp ρ o).run P w = .ok (.value v) w' := by
  have ha' : c.args = #[xo, yo] := by rw [← Array.toArray_toList (xs := c.args), ha]
  have ht' : c.argTypes = #[t, u] := by rw [← Array.toArray_toList (xs := c.argTypes), ht]
  simp [execOp, ho, resolve, hc, ha', ht', invoke, builtin, h]

theorem drew_heap : w.drew.heap = w.heap := rfl

/-- The elements of a grown row. -/
theorem grown_RD {Y : Blocks} {t : Ty} {l ys : List t.den} {olds news rest : Array Value} (ho : olds.size = l.length * t.size) (hn : news.size = ys.length * t.size)
    (h1 : ∀ i (hi : i < l.length), RD Y w t l[i] (fun j => olds[i * t.size + j]?)) (h2 : ∀ i (hi : i < ys.length), RD Y w t ys[i] (fun j => news[i * t.size + j]?)) :
    ∀ i (hi : i < (l ++ ys).length), RD Y w t (l ++ ys)[i] (fun j => (olds ++ news ++ rest)[i * t.size + j]?) := by
  intro i hi
  rw [List.length_append] at hi
  by_cases hlt : i < l.length
  · rw [List.getElem_append_left hlt]
    refine (h1 i hlt).congr fun j hj => ?_
    have := elem_lt hlt hj
    rw [Array.append_assoc, Array.getElem?_append, if_pos (by omega)]
  · rw [List.getElem_append_right (by omega)]
    refine (h2 (i - l.length) (by omega)).congr fun j hj => ?_
    have h3 := elem_lt (show i - l.length < ys.length by omega) hj
    have h4 : i * t.size = l.length * t.size + (i - l.length) * t.size := by rw [← Nat.add_mul]; congr 1; omega
    rw [Array.append_assoc, Array.getElem?_append, if_neg (by omega), Array.getElem?_append, if_pos (by omega)]
    congr 1
    omega

theorem grownCap_ge' (need old : Nat) (e : TypeId) : need ≤ grownCap w need old e := grownCap_ge w need old e

section app
variable {c : Call} {xo yo : Operand} {t u e : TypeId} {ty : Ty} {by_ : Nat} {B : Boxes}

/-- append onto nil. -/
theorem does_app_nil (ho : o.op = .call c) (hc : c.callee = .builtin .append) (ha : c.args.toList = [xo, yo]) (ht : c.argTypes.toList = [t, u]) (hu : P.underlying t = some (.slice e)) (hni : NoInt P u) (hn : sizeT P e = some ty.size) (h0 : 0 < ty.size)
    (hby : bytesT P e = some by_) (hbp : 0 < by_) (hz : zeroT P e ty = true) (hS : SimB X β N w (look B)) (hal : ¬ N al) (htag : Ctx.tag ty e) (hx : ρ xo = .slice none 0 0) {a : AV} {ys : List ty.den} {rs : List Nat}
    (hy : VR (All X β (look B)) β N w a (ρ yo)) (hr : (content B ty a).run = some (ys, rs)) :
    (ys = [] → Does P o ρ w (Step X β N w (look B) al (look B) (.d .nils))) ∧
    (ys ≠ [] → ys.length * by_ ≤ 70368744177664 → Does P o ρ w (Step X β N w (look B) al (updL (look B) al (.arr ty ys true)) (.sr al 0 ys.length ty.size none))) := by
  obtain ⟨us, u1, u2, u3, u4, u5⟩ := content_sound (P := P) hS hr hy h0
  obtain ⟨inf, z, hi1, hz', hzs, _, _⟩ := zeroT_run hz
  have hi2 : inf.size = ty.size := by obtain ⟨i', hi', hs⟩ := sizeT_info hn; rw [hi1] at hi'; cases hi'; exact hs
  have hbs : inf.bytes = by_ := by simpa [bytesT, hi1] using hby
  constructor
  · intro hys
    subst hys
    have hf := u3 0 w (Nat.le_refl _) rfl
    rw [← hi2] at hf
    refine ⟨.slice none 0 0, w, .inl (exec_append ho hc ha ht ?_), Step.same hS (VR.d_iff.2 rfl)⟩
    rw [hx]
    exact run_append_nil0 t u o.type e inf hu hni hi1 _ u2 hf
  · intro hys hb
    have hpos : 0 < ys.length := List.length_pos_iff.2 hys
    have hlen : ys.length ≤ 70368744177664 := Nat.le_trans (Nat.le_mul_of_pos_right _ hbp) hb
    have hf := u3 ys.length w.drew (Nat.le_refl _) rfl
    rw [List.take_of_length_le (by omega), ← hi2] at hf
    have hrun := run_append_grow' (P := P) (w := w) t u o.type e inf z hu hni hi1 hz' none 0 0 ys.length #[] us.toArray (ρ yo) (by simp [Builtin.firstCells]) u2 hf (by omega) (by omega) (by rw [hbs, Nat.zero_add]; omega)
    rw [Nat.zero_add] at hrun
    refine ⟨_, _, .inl (exec_append ho hc ha ht (by rw [hx]; exact hrun)), ?_⟩
    have hge := grownCap_ge' (w := w) ys.length 0 e
    refine newArr (w := w.drew) (w0 := w) rfl hS rfl rfl rfl hal htag h0 hge (fun k' h => by cases h) ?_ ?_ fun i hi => ?_
    · simp only [Array.size_append, List.size_toArray, List.length_nil, u1, Builtin.zeroCells, Array.size_map, Array.size_range, hzs, Nat.zero_add, ← Nat.add_mul]
      exact Nat.mul_le_mul_right _ (by omega)
    · simp [u1]
    · have := grown_RD (Y := All X β (look B)) (w := w) (l := ([] : List ty.den)) (ys := ys) (olds := #[]) (news := us.toArray) (rest := Builtin.zeroCells z.cells (grownCap w ys.length 0 e - ys.length)) (by simp) (by simpa using u1) (fun i hi => by simp at hi) (fun i hi => (u4 i hi).congr fun j _ => by simp)
      simpa using this i (by simpa using hi)

/-- append onto a row of one's own, up to its end. -/
theorem does_app_end (ho : o.op = .call c) (hc : c.callee = .builtin .append) (ha : c.args.toList = [xo, yo]) (ht : c.argTypes.toList = [t, u]) (hu : P.underlying t = some (.slice e)) (hni : NoInt P u) (hn : sizeT P e = some ty.size) (h0 : 0 < ty.size)
    (hby : bytesT P e = some by_) (hbp : 0 < by_) (hz : zeroT P e ty = true) (hS : SimB X β N w (look B)) (hal : ¬ N al) (htag : Ctx.tag ty e) {b : Nat} {l : List ty.den} (hx : VR (All X β (look B)) β N w (.sr b 0 l.length ty.size none) (ρ xo)) (hL : look B b = .arr ty l true)
    {a : AV} {ys : List ty.den} {rs : List Nat} (hy : VR (All X β (look B)) β N w a (ρ yo)) (hr : (content B ty a).run = some (ys, rs)) (hb : (l.length + ys.length) * by_ ≤ 70368744177664) :
    Does P o ρ w (Step X β N w (look B) al (updL (updL (look B) b .dead) al (.arr ty (l ++ ys) true)) (.sr al 0 (l.length + ys.length) ty.size none)) := by
  obtain ⟨us, u1, u2, u3, u4, u5⟩ := content_sound (P := P) hS hr hy h0
  obtain ⟨inf, z, hi1, hz', hzs, _, _⟩ := zeroT_run hz
  have hi2 : inf.size = ty.size := by obtain ⟨i', hi', hs⟩ := sizeT_info hn; rw [hi1] at hi'; cases hi'; exact hs
  have hbs : inf.bytes = by_ := by simpa [bytesT, hi1] using hby
  have hlen : l.length + ys.length ≤ 70368744177664 := Nat.le_trans (Nat.le_mul_of_pos_right _ hbp) hb
  have hbne : b ≠ al := fun e => hal (e ▸ hS.dom b (by rw [hL]; simp))
  obtain ⟨hN, hs, h⟩ := VR.sr_iff.1 hx
  have hbx := hS.box b
  rw [hL] at hbx
  obtain ⟨_, hbx⟩ := hbx
  -- the row is dropped, and a new one made
  have grow : ∀ (base : Option Addr) (sCap : Nat) (olds : Array Value), ρ xo = .slice base l.length sCap → (Builtin.firstCells inf.size l.length (.slice base l.length sCap)).run P w.drew = .ok olds w.drew → sCap < l.length + ys.length → olds.size = l.length * ty.size →
      (∀ i (hi : i < l.length), RD (All X β (look B)) w ty l[i] (fun j => olds[i * ty.size + j]?)) →
      Does P o ρ w (Step X β N w (look B) al (updL (updL (look B) b .dead) al (.arr ty (l ++ ys) true)) (.sr al 0 (l.length + ys.length) ty.size none)) := by
    intro base sCap olds hv hold hg hosz hord
    have hf := u3 ys.length w.drew (Nat.le_refl _) rfl
    rw [List.take_of_length_le (by omega), ← hi2] at hf
    have hrun := run_append_grow' (P := P) (w := w) t u o.type e inf z hu hni hi1 hz' base l.length sCap ys.length olds us.toArray (ρ yo) hold u2 hf hg hlen (by rw [hbs]; omega)
    refine ⟨_, _, .inl (exec_append ho hc ha ht (by rw [hv]; exact hrun)), ?_⟩
    obtain ⟨k1, k2⟩ := Step.kill (b := b) hS
    have mv := mv_of (X := X) k2 (β' := β) (N := N) (N' := N) fun b hb => ⟨hb, rfl⟩
    have hge := grownCap_ge' (w := w) (l.length + ys.length) sCap e
    have st : Step X β N w (updL (look B) b .dead) al (updL (updL (look B) b .dead) al (.arr ty (l ++ ys) true)) (.sr al 0 (l.length + ys.length) ty.size none)
        (.slice (some ⟨w.heap.size, 0, none⟩) (l.length + ys.length) (grownCap w (l.length + ys.length) sCap e)) (w.drew.alloc (.cells (olds ++ us.toArray ++ Builtin.zeroCells z.cells (grownCap w (l.length + ys.length) sCap e - (l.length + ys.length))) e)) := by
      refine newArr (w := w.drew) (w0 := w) rfl k1 rfl rfl rfl hal htag h0 hge (fun k' h => by cases h) ?_ ?_ fun i hi => ?_
      · simp only [Array.size_append, List.size_toArray, u1, hosz, Builtin.zeroCells, Array.size_map, Array.size_range, hzs, ← Nat.add_mul]
        exact Nat.mul_le_mul_right _ (by omega)
      · simp only [Array.size_append, List.size_toArray, u1, hosz, List.length_append, ← Nat.add_mul]
        omega
      · have := grown_RD (Y := All X β (look B)) (w := w) (l := l) (ys := ys) (olds := olds) (news := us.toArray) (rest := Builtin.zeroCells z.cells (grownCap w (l.length + ys.length) sCap e - (l.length + ys.length))) hosz (by simpa using u1) hord (fun i hi => (u4 i hi).congr fun j _ => by simp)
        exact (this i hi).move mv.size mv.keep _ fun _ _ _ h => h
    obtain ⟨β', N', s1, s2, s3, s4, s5⟩ := st
    exact ⟨β', N', s1, s2, k2.trans s3, s4, s5⟩
  rcases h with ⟨hβ, hv, _, hl0, _⟩ | ⟨cc, k, hβ, hv, hk, _, arr0, e0, fz0, ha0, hsz0⟩
  · -- nil
    have hnil : l = [] := List.length_eq_zero_iff.1 hl0
    subst hnil
    by_cases hys : ys = []
    · subst hys
      have hf := u3 0 w (Nat.le_refl _) rfl
      rw [← hi2] at hf
      obtain ⟨n1, n2, n3, n4, n5, n6⟩ := Step.name (al := al) hS hL hal
      refine ⟨.slice none 0 0, w, .inl (exec_append ho hc ha ht ?_), _, _, n1, ?_, n2, n3, n4⟩
      · rw [hv]; exact run_append_nil0 t u o.type e inf hu hni hi1 _ u2 hf
      · exact VR.sr_iff.2 ⟨n6, h0, .inl ⟨by rw [n5]; exact hβ, rfl, rfl, rfl, rfl⟩⟩
    · have hpos : 0 < ys.length := List.length_pos_iff.2 hys
      exact grow none 0 #[] hv (by simp [Builtin.firstCells]) (by simpa using hpos) (by simp) (fun i hi => by simp at hi)
  · rcases hbx with ⟨g1, _⟩ | ⟨c', arr, e', g1, g2, g3, g4, g5⟩
    · rw [hβ] at g1; cases g1
    rw [hβ] at g1; cases g1
    rw [ha0] at g2; cases g2
    simp only [Nat.zero_mul, Nat.zero_add] at hv hsz0
    by_cases hroom : l.length + ys.length ≤ k
    · -- in place
      have hf := u3 ys.length w (Nat.le_refl _) rfl
      rw [List.take_of_length_le (by omega), ← hi2] at hf
      have hfit : (l.length + ys.length) * ty.size ≤ arr0.size := Nat.le_trans (Nat.mul_le_mul_right _ hroom) hsz0
      have hrun := run_append_in (P := P) (w := w) t u o.type e inf hu hni hi1 cc 0 l.length k ys.length us (ρ yo) u2 hf hroom ha0 (by rw [hi2, u1, Nat.zero_add, ← Nat.add_mul]; exact hfit) u5
      rw [hi2, Nat.zero_add] at hrun
      refine ⟨_, _, .inl (exec_append ho hc ha ht (by rw [hv]; exact hrun)), ?_⟩
      have hsp : splice l l.length ys = l ++ ys := by simp [splice]
      obtain ⟨p1, p2, p3⟩ := putArr' (val := .top) (v := undef) hS hL hβ ha0 hfit (Nat.le_refl _) u1 u4 fun mv => VR.top_iff.2 trivial
      rw [hsp] at p1 p2 p3
      obtain ⟨n1, n2, n3, n4, n5, n6⟩ := Step.name (al := al) (l := l ++ ys) p1 (if_pos rfl) hal
      have hL' : updL (updL (updL (look B) b (.arr ty (l ++ ys) true)) b .dead) al (.arr ty (l ++ ys) true) = updL (updL (look B) b .dead) al (.arr ty (l ++ ys) true) := by
        funext q
        unfold updL
        split
        · rfl
        · split <;> rfl
      rw [hL'] at n1 n2 n4
      obtain ⟨arr', fz', q1, q2⟩ := p3.shape cc arr0 e0 _ ha0
      exact ⟨_, _, n1, VR.sr_iff.2 ⟨n6, h0, .inr ⟨cc, k, by rw [n5]; exact hβ, by simp, hroom, (fun k' h => by cases h), arr', e0, fz', q1, by rw [q2]; simpa using hsz0⟩⟩, p3.trans n2, n3, n4⟩
    · have hold := firstCells_of (P := P) (sz := ty.size) (n := l.length) (c := cc) (off := 0) (len := l.length) (cap := k) (m := l.length) (us := arr0.toList.take (l.length * ty.size)) (w1 := w.drew) (fun q hq => by
          have : w.drew.cell? ⟨cc, 0 + q, none⟩ = arr0[q]? := by rw [Nat.zero_add]; exact cell_of_arr (w := w.drew) (by rw [drew_heap]; exact ha0)
          rw [this, List.getElem?_take, if_pos hq]
          refine ⟨by simp, ?_⟩
          rw [Array.getElem?_eq_getElem (by omega)]; rfl) (by simp; omega) (Nat.le_refl _)
      rw [List.take_of_length_le (by simp; omega), ← hi2] at hold
      refine grow _ k _ hv hold (by omega) (by simp [hi2]; omega) fun i hi => (g5 i hi).congr fun j hj => ?_
      have := elem_lt hi hj
      rw [hi2]
      simp [List.getElem?_take, this]

theorem app_new (ho : o.op = .call c) (hc : c.callee = .builtin .append) (ha : c.args.toList = [xo, yo]) (ht : c.argTypes.toList = [t, u]) (hu : P.underlying t = some (.slice e)) (hni : NoInt P u) (h0 : 0 < ty.size) {inf : TypeInfo} {z : Value}
    (hi1 : P.info? e = some inf) (hz' : inf.zero = some z) (hzs : z.cells.size = ty.size) (hi2 : inf.size = ty.size) (hS : SimB X β N w L) (hal : ¬ N al) (htag : Ctx.tag ty e) {base : Option Addr} {len k : Nat} {olds : Array Value} {l0 ys : List ty.den} {us : List Value}
    (hv : ρ xo = .slice base len k) (hold : (Builtin.firstCells ty.size len (.slice base len k)).run P w.drew = .ok olds w.drew) (hl0 : l0.length = len) (hosz : olds.size = len * ty.size)
    (hord : ∀ i (hi : i < l0.length), RD (All X β L) w ty l0[i] (fun j => olds[i * ty.size + j]?)) (u1 : us.length = ys.length * ty.size) (u2 : ∀ w1, (Builtin.lenOf (ρ yo)).run P w1 = .ok ys.length w1)
    (hf : (Builtin.firstCells ty.size ys.length (ρ yo)).run P w.drew = .ok us.toArray w.drew) (u4 : ∀ i (hi : i < ys.length), RD (All X β L) w ty ys[i] (fun j => us[i * ty.size + j]?))
    (hg : k < len + ys.length) (hlen : len + ys.length ≤ 70368744177664) (hfit : (len + ys.length) * inf.bytes ≤ 140737488355328) :
    Does P o ρ w (Step X β N w L al (updL L al (.arr ty (l0 ++ ys) true)) (.sr al 0 (len + ys.length) ty.size none)) := by
  have hold' : (Builtin.firstCells inf.size len (.slice base len k)).run P w.drew = .ok olds w.drew := by rw [hi2]; exact hold
  have hf' : (Builtin.firstCells inf.size ys.length (ρ yo)).run P w.drew = .ok us.toArray w.drew := by rw [hi2]; exact hf
  have hrun := run_append_grow' (P := P) (w := w) t u o.type e inf z hu hni hi1 hz' base len k ys.length olds us.toArray (ρ yo) hold' u2 hf' hg hlen hfit
  have hge := grownCap_ge' (w := w) (len + ys.length) k e
  refine ⟨.slice (some ⟨w.heap.size, 0, none⟩) (len + ys.length) (grownCap w (len + ys.length) k e),
    w.drew.alloc (.cells (olds ++ us.toArray ++ Builtin.zeroCells z.cells (grownCap w (len + ys.length) k e - (len + ys.length))) e), .inl (exec_append ho hc ha ht (by rw [hv]; exact hrun)), ?_⟩
  refine newArr (w := w.drew) (w0 := w) rfl hS rfl rfl rfl hal htag h0 hge (fun k' h => by cases h) ?_ ?_ ?_
  · simp only [Array.size_append, hosz, List.size_toArray, u1, Builtin.zeroCells, Array.size_map, Array.size_range, hzs, ← Nat.add_mul]
    exact Nat.mul_le_mul_right _ (by omega)
  · simp only [Array.size_append, hosz, List.size_toArray, u1, List.length_append, hl0, ← Nat.add_mul]
    omega
  · exact grown_RD (Y := All X β L) (w := w) (l := l0) (ys := ys) (olds := olds) (news := us.toArray) (by rw [hosz, hl0]) (by simpa using u1) hord (fun i hi => (u4 i hi).congr fun j _ => by simp)

/-- append onto a slice of which the capacity is known: a new row, or in place. -/
theorem does_app_cap (ho : o.op = .call c) (hc : c.callee = .builtin .append) (ha : c.args.toList = [xo, yo]) (ht : c.argTypes.toList = [t, u]) (hu : P.underlying t = some (.slice e)) (hni : NoInt P u) (hn : sizeT P e = some ty.size) (h0 : 0 < ty.size)
    (hby : bytesT P e = some by_) (hbp : 0 < by_) (hz : zeroT P e ty = true) (hS : SimB X β N w (look B)) (hal : ¬ N al) (htag : Ctx.tag ty e) {b off len k : Nat} {l : List ty.den} {live : Bool} (hx : VR (All X β (look B)) β N w (.sr b off len ty.size (some k)) (ρ xo)) (hL : look B b = .arr ty l live)
    (hle : off + len ≤ l.length) {a : AV} {ys : List ty.den} {rs : List Nat} (hy : VR (All X β (look B)) β N w a (ρ yo)) (hr : (content B ty a).run = some (ys, rs)) (hb : (len + ys.length) * by_ ≤ 70368744177664) :
    (len + ys.length ≤ k → live = true → Does P o ρ w (Step X β N w (look B) al (updL (look B) b (.arr ty (splice l (off + len) ys) true)) (.sr b off (len + ys.length) ty.size (some k)))) ∧
    (¬ len + ys.length ≤ k → Does P o ρ w (Step X β N w (look B) al (updL (look B) al (.arr ty ((l.drop off).take len ++ ys) true)) (.sr al 0 (len + ys.length) ty.size none))) := by
  obtain ⟨us, u1, u2, u3, u4, u5⟩ := content_sound (P := P) hS hr hy h0
  obtain ⟨inf, z, hi1, hz', hzs, _, _⟩ := zeroT_run hz
  have hi2 : inf.size = ty.size := by obtain ⟨i', hi', hs⟩ := sizeT_info hn; rw [hi1] at hi'; cases hi'; exact hs
  have hbs : inf.bytes = by_ := by simpa [bytesT, hi1] using hby
  have hlen : len + ys.length ≤ 70368744177664 := Nat.le_trans (Nat.le_mul_of_pos_right _ hbp) hb
  obtain ⟨hN, hs, h⟩ := VR.sr_iff.1 hx
  have hbx := hS.box b
  rw [hL] at hbx
  obtain ⟨_, hbx⟩ := hbx
  rcases h with ⟨_, _, _, _, hcap⟩ | ⟨cc, k', hβ, hv, hk, hkk, arr0, e0, fz0, ha0, hsz0⟩
  · cases hcap
  have := hkk k rfl
  subst this
  rcases hbx with ⟨g1, _⟩ | ⟨c', arr, e', g1, g2, g3, g4, g5⟩
  · rw [hβ] at g1; cases g1
  rw [hβ] at g1; cases g1
  rw [ha0] at g2; cases g2
  constructor
  · rintro hroom rfl
    have hf := u3 ys.length w (Nat.le_refl _) rfl
    rw [List.take_of_length_le (by omega), ← hi2] at hf
    have hfit : (off + len + ys.length) * ty.size ≤ arr0.size := Nat.le_trans (Nat.mul_le_mul_right _ (by omega)) hsz0
    have hrun := run_append_in (P := P) (w := w) t u o.type e inf hu hni hi1 cc (off * ty.size) len k' ys.length us (ρ yo) u2 hf hroom ha0 (by rw [hi2, u1, ← Nat.add_mul, ← Nat.add_mul]; exact hfit) u5
    rw [hi2, ← Nat.add_mul] at hrun
    refine ⟨_, _, .inl (exec_append ho hc ha ht (by rw [hv]; exact hrun)), putArr hS hL hβ ha0 hfit (by omega) u1 u4 fun mv => ?_⟩
    obtain ⟨arr', fz', q1, q2⟩ := mv.shape cc arr0 e0 _ ha0
    exact VR.sr_iff.2 ⟨hN, h0, .inr ⟨cc, k', hβ, rfl, hroom, hkk, arr', e0, fz', q1, by rw [q2]; exact hsz0⟩⟩
  · intro hroom
    have hlt : ∀ q, q < len * ty.size → off * ty.size + q < arr0.size := by
      intro q hq
      have : (off + len) * ty.size ≤ l.length * ty.size := Nat.mul_le_mul_right _ hle
      rw [Nat.add_mul] at this; omega
    have hold := firstCells_of (P := P) (sz := ty.size) (n := len) (c := cc) (off := off * ty.size) (len := len) (cap := k') (m := len) (us := (arr0.toList.drop (off * ty.size)).take (len * ty.size)) (w1 := w.drew) (fun q hq => by
        have : w.drew.cell? ⟨cc, off * ty.size + q, none⟩ = arr0[off * ty.size + q]? := cell_of_arr (w := w.drew) (by rw [drew_heap]; exact ha0)
        rw [this, List.getElem?_take, if_pos hq, List.getElem?_drop]
        refine ⟨by simp, ?_⟩
        rw [Array.getElem?_eq_getElem (hlt q hq)]; rfl) (by
          have : (off + len) * ty.size ≤ l.length * ty.size := Nat.mul_le_mul_right _ hle
          rw [Nat.add_mul] at this
          simp; omega) (Nat.le_refl _)
    rw [List.take_of_length_le (by simp; omega)] at hold
    have hf := u3 ys.length w.drew (Nat.le_refl _) rfl
    rw [List.take_of_length_le (by omega)] at hf
    have hosz : ((arr0.toList.drop (off * inf.size)).take (len * inf.size)).toArray.size = len * ty.size := by
      have : (off + len) * ty.size ≤ l.length * ty.size := Nat.mul_le_mul_right _ hle
      rw [Nat.add_mul] at this
      simp [hi2]; omega
    have hdl : ((l.drop off).take len).length = len := by simp; omega
    have hord : ∀ i (hi : i < ((l.drop off).take len).length), RD (All X β (look B)) w ty ((l.drop off).take len)[i] (fun j => ((arr0.toList.drop (off * inf.size)).take (len * inf.size)).toArray[i * ty.size + j]?) := by
      intro i hi
      have hi' : i < len := by rw [hdl] at hi; exact hi
      have he : ((l.drop off).take len)[i] = l[off + i]'(by omega) := by simp
      rw [he]
      refine (g5 (off + i) (by omega)).congr fun j hj => ?_
      have hq := elem_lt hi' hj
      rw [hi2]
      simp only [List.getElem?_toArray, List.getElem?_take, if_pos hq, List.getElem?_drop]
      rw [Nat.add_mul, ← Nat.add_assoc]
      simp
    rw [hi2] at hosz hord
    exact app_new ho hc ha ht hu hni h0 hi1 hz' hzs hi2 hS hal htag hv (l0 := (l.drop off).take len) hold hdl hosz hord u1 u2 hf u4 (by omega) hlen (by rw [hbs]; omega)

end app

theorem does_clr {c : Call} {xo : Operand} {t e : TypeId} (ho : o.op = .call c) (hc : c.callee = .builtin .clear) (ha : c.args.toList = [xo]) (ht : c.argTypes.toList = [t]) (hu : P.underlying t = some (.slice e)) {ty : Ty} (hn : sizeT P e = some ty.size) (h0 : 0 < ty.size) (hz : zeroT P e ty = true)
    (hS : SimB X β N w L) {b off len : Nat} {cap : Option Nat} {l : List ty.den} (hx : VR (All X β L) β N w (.sr b off len ty.size cap) (ρ xo)) (hL : L b = .arr ty l true) (hle : off + len ≤ l.length) :
    Does P o ρ w (Step X β N w L al (updL L b (.arr ty (splice l off (List.replicate len ty.dflt)) true)) (.tup [])) := by
  obtain ⟨inf, z, hi1, hz', hzs, hz4, hz5⟩ := zeroT_run hz
  have ha' : c.args = #[xo] := by rw [← Array.toArray_toList (xs := c.args), ha]
  have ht' : c.argTypes = #[t] := by rw [← Array.toArray_toList (xs := c.argTypes), ht]
  obtain ⟨hN, hs, h⟩ := VR.sr_iff.1 hx
  have hbx := hS.box b
  rw [hL] at hbx
  obtain ⟨_, hbx⟩ := hbx
  have tup : ∀ Y, VR Y β N w (.tup []) (.tuple #[]) := fun Y => VR.tup_iff.2 ⟨#[], rfl, by unfold VRs; trivial⟩
  rcases h with ⟨hβ, hv, rfl, rfl, _⟩ | ⟨cc, k, hβ, hv, hk, _, arr0, e0, fz0, ha0, hsz0⟩
  · refine ⟨.tuple #[], w, .inl ?_, ?_⟩
    · simp [execOp, ho, resolve, hc, ha', ht', invoke, builtin, Builtin.clear_, hv, run_underlying hu]
    · have hl0 : l = [] := by
        rcases hbx with ⟨_, g⟩ | ⟨c', arr, e', g1, _⟩
        · exact g
        · rw [hβ] at g1; cases g1
      subst hl0
      have hsame : updL L b (.arr ty (splice [] 0 (List.replicate 0 ty.dflt)) true) = L := by
        funext q
        unfold updL
        split
        · rename_i h; rw [h, hL]; simp [splice]
        · rfl
      rw [hsame]
      exact Step.same hS (tup _)
  · rcases hbx with ⟨g1, _⟩ | ⟨c', arr, e', g1, g2, g3, g4, g5⟩
    · rw [hβ] at g1; cases g1
    rw [hβ] at g1; cases g1
    rw [ha0] at g2; cases g2
    by_cases hl0 : len = 0
    · subst hl0
      refine ⟨.tuple #[], w, .inl ?_, ?_⟩
      · simp [execOp, ho, resolve, hc, ha', ht', invoke, builtin, Builtin.clear_, hv, run_underlying hu]
      · have hsame : updL L b (.arr ty (splice l off (List.replicate 0 ty.dflt)) true) = L := by
          funext q
          unfold updL
          split
          · rename_i h; rw [h, hL]; simp [splice]
          · rfl
        rw [hsame]
        exact Step.same hS (tup _)
    · obtain ⟨r1, r2⟩ := zeroRow (Y := All X β L) (w := w) hzs h0 hz4 hz5 len (len * ty.size) (Nat.le_refl _)
      have hzl : (Builtin.zeroCells z.cells len).toList = (List.range (len * ty.size)).map fun q => z.cells[q % z.cells.size]! := by simp [Builtin.zeroCells, hzs]
      have hll : ((List.range (len * ty.size)).map fun q => z.cells[q % z.cells.size]!).length = (List.replicate len ty.dflt).length * ty.size := by simp
      have hfit : (off + (List.replicate len ty.dflt).length) * ty.size ≤ arr0.size := Nat.le_trans (Nat.mul_le_mul_right _ (by simp; omega)) g3
      have hst := run_storeCells_cells (P := P) cc (off * ty.size) ((List.range (len * ty.size)).map fun q => z.cells[q % z.cells.size]!) 0 w
        (fun j hj => by
          rw [cell_of_arr ha0]
          rw [hll] at hj
          rw [Nat.add_mul] at hfit
          simp
          omega)
        (fun j hj => by simp [World.frozen?, ha0]) r2
      simp only [Nat.add_zero] at hst
      refine ⟨.tuple #[], w.setCells cc (off * ty.size) ((List.range (len * ty.size)).map fun q => z.cells[q % z.cells.size]!), .inl ?_, putArr hS hL hβ ha0 hfit (by omega) hll r1 fun mv => VR.tup_iff.2 ⟨#[], rfl, by unfold VRs; trivial⟩⟩
      obtain ⟨m, rfl⟩ : ∃ m, len = m + 1 := ⟨len - 1, by omega⟩
      simp [execOp, ho, resolve, hc, ha', ht', invoke, builtin, Builtin.clear_, hv, run_underlying hu, zeroValue, typeInfo, hi1, hz', hzl, hst]

end
end Go.Ev
