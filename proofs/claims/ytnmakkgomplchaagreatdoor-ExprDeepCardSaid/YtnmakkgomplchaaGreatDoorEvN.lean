/- The evaluator's operations are the model's: rows that are written. No condition. -/
import Derived.Test.YtnmakkgomplchaaGreatDoorEvM
import Derived.Laws.MakeOwn
namespace Go.Ev
set_option linter.unusedVariables false
set_option linter.unusedSimpArgs false
set_option linter.unusedSectionVars false
variable [Ctx]
section
variable {P : Program} {X : Blocks} {β : Map} {N : Nat → Prop} {w : World} {L : Looks} {al : Nat} {ρ : Operand → Value} {o : Oper}

theorem splice_get' {α : Type} (l xs : List α) (p j : Nat) (h : p ≤ l.length) :
    (splice l p xs)[j]? = if j < p then l[j]? else if j < p + xs.length then xs[j - p]? else l[j]? := by
  unfold splice
  rw [List.append_assoc, List.getElem?_append, List.length_take, Nat.min_eq_left h]
  split
  · rename_i h1; rw [List.getElem?_take, if_pos h1]
  · rename_i h1
    rw [List.getElem?_append]
    split
    · rename_i h2; rw [if_pos (by omega)]
    · rename_i h2
      rw [if_neg (by omega), List.getElem?_drop]
      congr 1
      omega

theorem splice_length' {α : Type} (l xs : List α) (p : Nat) (h : p ≤ l.length) : (splice l p xs).length = max l.length (p + xs.length) := by
  unfold splice
  simp
  omega

theorem elem_lt {i n sz j : Nat} (hi : i < n) (hj : j < sz) : i * sz + j < n * sz := by
  have : (i + 1) * sz ≤ n * sz := Nat.mul_le_mul_right _ hi
  rw [Nat.add_mul] at this; omega

/-- Elements are written into a live row. -/
theorem putArr' {t : Ty} {l ys : List t.den} {b c p : Nat} {arr : Array Value} {e : TypeId} {us : List Value} {val : AV} {v : Value} (hS : SimB X β N w L) (hL : L b = .arr t l true) (hβ : β b = some c)
    (ha : w.heap[c]? = some (.cells arr e (0, 0))) (hfit : (p + ys.length) * t.size ≤ arr.size) (hp : p ≤ l.length) (hl : us.length = ys.length * t.size)
    (hr : ∀ i (hi : i < ys.length), RD (All X β L) w t ys[i] (fun j => us[i * t.size + j]?))
    (hval : Mv (All X β L) β N w (All X β (updL L b (.arr t (splice l p ys) true))) β N (w.setCells c (p * t.size) us) → VR (All X β (updL L b (.arr t (splice l p ys) true))) β N (w.setCells c (p * t.size) us) val v) :
    SimB X β N (w.setCells c (p * t.size) us) (updL L b (.arr t (splice l p ys) true)) ∧ VR (All X β (updL L b (.arr t (splice l p ys) true))) β N (w.setCells c (p * t.size) us) val v ∧ Fr (Own β L) w (Own β (updL L b (.arr t (splice l p ys) true))) (w.setCells c (p * t.size) us) := by
  have hb := hS.box b
  rw [hL] at hb
  obtain ⟨h0, hb⟩ := hb
  rcases hb with ⟨g1, _⟩ | ⟨c', arr', e', g1, g2, g3, g4, g5⟩
  · rw [hβ] at g1; cases g1
  rw [hβ] at g1; cases g1
  rw [ha] at g2; cases g2
  have hfit' : p * t.size + us.length ≤ arr.size := by rw [hl, ← Nat.add_mul]; exact hfit
  obtain ⟨arr', k1, k2, k3, k4, k5⟩ := setCells_heap c e us (p * t.size) w arr ha hfit'
  obtain ⟨r1, r2, r3, r4⟩ := setCells_rest c us (p * t.size) w
  refine Step.put' hS (by rw [hL]; rfl) rfl hβ ha k1 k2 r1 r2 r3 r4 (fun k hk => setCells_other c k hk _ _ _) fun mv => ⟨⟨h0, .inr ⟨c, arr', e, hβ, k1, ?_, ⟨by simp, g4.2⟩, fun i hi => ?_⟩⟩, hval mv⟩
  · rw [k2, splice_length' _ _ _ hp]
    rcases Nat.le_total l.length (p + ys.length) with h | h
    · rw [Nat.max_eq_right h]; exact hfit
    · rw [Nat.max_eq_left h]; exact g3
  · have hg := splice_get' l ys p i hp
    rw [List.getElem?_eq_getElem hi] at hg
    split at hg
    · rename_i h1
      have hil : i < l.length := by omega
      rw [List.getElem?_eq_getElem hil] at hg
      rw [Option.some.inj hg]
      refine (g5 i hil).move mv.size mv.keep _ fun j hj u hu => ?_
      have := elem_lt h1 hj
      rw [k3 _ this]; exact hu
    · rename_i h1
      split at hg
      · rename_i h2
        have hil : i - p < ys.length := by omega
        rw [List.getElem?_eq_getElem hil] at hg
        rw [Option.some.inj hg]
        refine (hr (i - p) hil).move mv.size mv.keep _ fun j hj u hu => ?_
        have := k4 _ u hu
        rwa [show p * t.size + ((i - p) * t.size + j) = i * t.size + j by rw [← Nat.add_assoc, ← Nat.add_mul, show p + (i - p) = i by omega]] at this
      · rename_i h2
        have hil : i < l.length := by
          have := splice_length' l ys p hp
          rw [this] at hi
          omega
        rw [List.getElem?_eq_getElem hil] at hg
        rw [Option.some.inj hg]
        refine (g5 i hil).move mv.size mv.keep _ fun j hj u hu => ?_
        rw [k5 _ (by rw [hl, ← Nat.add_mul]; exact Nat.le_trans (Nat.mul_le_mul_right _ (by omega)) (Nat.le_add_right _ _))]; exact hu

theorem putArr {t : Ty} {l ys : List t.den} {b c p : Nat} {arr : Array Value} {e : TypeId} {us : List Value} {val : AV} {v : Value} (hS : SimB X β N w L) (hL : L b = .arr t l true) (hβ : β b = some c)
    (ha : w.heap[c]? = some (.cells arr e (0, 0))) (hfit : (p + ys.length) * t.size ≤ arr.size) (hp : p ≤ l.length) (hl : us.length = ys.length * t.size)
    (hr : ∀ i (hi : i < ys.length), RD (All X β L) w t ys[i] (fun j => us[i * t.size + j]?))
    (hval : Mv (All X β L) β N w (All X β (updL L b (.arr t (splice l p ys) true))) β N (w.setCells c (p * t.size) us) → VR (All X β (updL L b (.arr t (splice l p ys) true))) β N (w.setCells c (p * t.size) us) val v) :
    Step X β N w L al (updL L b (.arr t (splice l p ys) true)) val v (w.setCells c (p * t.size) us) := by
  obtain ⟨h1, h2, h3⟩ := putArr' (val := val) (v := v) hS hL hβ ha hfit hp hl hr hval
  exact ⟨β, N, h1, h2, h3, fun b hb => ⟨hb, rfl⟩, fun b hb => .inl hb⟩

theorem decP_encC : ∀ (t : Ty) (x : t.den) (r : List D), decP t (encC t x ++ r) = some (x, r)
  | .int k, x, r => by simp [encC, decP]
  | .bool, x, r => by simp [encC, decP]
  | .str, x, r => by simp [encC, decP]
  | .unit, x, r => by simp [encC, decP]
  | .sl t, x, r => by simp [encC, decP]
  | .pair a b, x, r => by simp [encC, decP, List.append_assoc, decP_encC a, decP_encC b]
  | .rose t, x, r => by simp [encC, decP, List.append_assoc, decP_encC t, Rose.eta]

theorem zeros_VRd {Y : Blocks} : ∀ (ds : List D) (vs : List Value), zeros ds vs = true → vs.length = ds.length ∧ ∀ (j : Nat) (d : D), ds[j]? = some d → ∃ v, vs[j]? = some v ∧ VRd Y w d v
  | [], [], _ => ⟨rfl, by simp⟩
  | [], _ :: _, h => by simp [zeros] at h
  | _ :: _, [], h => by simp [zeros] at h
  | d :: ds, v :: vs, h => by
    simp only [zeros, Bool.and_eq_true] at h
    obtain ⟨h1, h2⟩ := zeros_VRd (Y := Y) ds vs h.2
    refine ⟨by simp [h1], fun j d' hd => ?_⟩
    cases j with
    | zero =>
      simp at hd
      subst hd
      refine ⟨v, rfl, ?_⟩
      have h0 := h.1
      unfold zero1 at h0
      split at h0
      · simp at h0; obtain ⟨rfl, rfl⟩ := h0; rfl
      · simp at h0; subst h0; rfl
      · simp only [Bool.and_eq_true, List.isEmpty_iff] at h0
        rw [h0.1]
        exact ⟨_, rfl, h0.2⟩
      · simp only [List.isEmpty_iff] at h0
        subst h0
        exact RD.nil rfl
      · cases h0
    | succ j => exact h2 j d' (by simpa using hd)

theorem zeroT_run {e : TypeId} {t : Ty} (h : zeroT P e t = true) : ∃ i z, P.info? e = some i ∧ i.zero = some z ∧ z.cells.size = t.size ∧ (∀ Y w, RD Y w t t.dflt (fun j => z.cells[j]?)) ∧ ∀ u ∈ z.cells.toList, u.oneCell' = true := by
  unfold zeroT at h
  split at h
  · rename_i i hi
    split at h
    · rename_i z hz
      have hlen := (zeros_VRd (w := default) (Y := fun _ => False) _ _ h).1
      refine ⟨i, z, hi, hz, by rw [encC_length] at hlen; simpa using hlen, fun Y w => ?_, ?_⟩
      · obtain ⟨h1, h2⟩ := zeros_VRd (w := w) (Y := Y) _ _ h
        have hd := decP_encC t t.dflt []
        rw [List.append_nil] at hd
        refine (decP_RD t _ _ _ _ hd fun j d hj => ?_).1
        obtain ⟨v, hv, hr⟩ := h2 j d hj
        exact ⟨v, by simpa using hv, hr⟩
      · intro u hu
        obtain ⟨h1, h2⟩ := zeros_VRd (w := default) (Y := fun _ => False) _ _ h
        obtain ⟨j, hj, rfl⟩ := List.mem_iff_getElem.1 hu
        obtain ⟨v, hv, hr⟩ := h2 j _ (List.getElem?_eq_getElem (by omega))
        rw [List.getElem?_eq_getElem hj] at hv
        cases hv
        exact hr.oneCell
    · cases h
  · cases h

/-- A row of zeros. -/
theorem zeroRow {Y : Blocks} {z : Array Value} {t : Ty} (hz : z.size = t.size) (h0 : 0 < t.size) (hr : ∀ Y w, RD Y w t t.dflt (fun j => z[j]?)) (h1 : ∀ u ∈ z.toList, u.oneCell' = true) (n m : Nat) (hm : n * t.size ≤ m) :
    (∀ i (hi : i < (List.replicate n t.dflt).length), RD Y w t (List.replicate n t.dflt)[i] (fun j => ((List.range m).map fun q => z[q % z.size]!)[i * t.size + j]?)) ∧ ∀ u ∈ (List.range m).map fun q => z[q % z.size]!, u.oneCell' = true := by
  constructor
  · intro i hi
    simp only [List.length_replicate] at hi
    rw [List.getElem_replicate]
    refine (hr Y w).congr fun j hj => ?_
    have hlt := elem_lt hi hj
    have hq : (i * t.size + j) % z.size = j := by rw [hz, Nat.mul_comm, Nat.mul_add_mod, Nat.mod_eq_of_lt hj]
    simp only [List.getElem?_map, List.getElem?_range (show i * t.size + j < m by omega), Option.map_some, hq]
    rw [getElem!_pos z j (by omega), Array.getElem?_eq_getElem (by omega)]
  · intro u hu
    obtain ⟨q, _, rfl⟩ := List.mem_map.1 hu
    have : q % z.size < z.size := Nat.mod_lt _ (by omega)
    rw [getElem!_pos z _ this]
    exact h1 _ (by simp)

/-- A new row. -/
theorem newArr {t : Ty} {l : List t.den} {us : Array Value} {e : TypeId} {len k : Nat} {cap : Option Nat} {w0 : World} (hw : w.heap = w0.heap) (hS : SimB X β N w0 L) (hos : w.os = w0.os) (htp : w.tape = w0.tape) (hou : w.output = w0.output)
    (hal : ¬ N al) (htag : Ctx.tag t e) (h0 : 0 < t.size) (hlen : len ≤ k) (hk : ∀ k', cap = some k' → k = k') (hsz : k * t.size ≤ us.size) (hll : l.length * t.size ≤ us.size)
    (hr : ∀ i (hi : i < l.length), RD (All X β L) w0 t l[i] (fun j => us[i * t.size + j]?)) :
    Step X β N w0 L al (updL L al (.arr t l true)) (.sr al 0 len t.size cap) (.slice (some ⟨w0.heap.size, 0, none⟩) len k) (w.alloc (.cells us e)) := by
  have hS' : SimB X β N w L := by
    have mv : Mv (All X β L) β N w0 (All X β L) β N w := ⟨by rw [hw]; exact Nat.le_refl _, fun c _ h => ⟨h, by rw [hw]⟩, fun c arr e fz h => ⟨arr, fz, by rw [hw]; exact h, rfl⟩, fun _ h => h, fun _ _ => rfl⟩
    refine ⟨hS.apart, hS.inj, fun b => ?_, hS.dom, fun c hc => by rw [hw]; exact hS.old c hc, hS.tabs' ⟨hos, htp, hou, by rw [hw]; exact Nat.le_refl _, fun c _ h => ⟨h, by rw [hw]⟩, fun c arr e fz h => ⟨arr, fz, by rw [hw]; exact h, rfl⟩⟩⟩
    by_cases hd : L b = .dead
    · rw [hd]; trivial
    · exact (hS.box b).move mv (hS.dom b hd) fun c _ _ => by rw [hw]
  have st := Step.new (al := al) (x := .arr t l true) (o := .cells us e) (val := .sr al 0 len t.size cap) (v := .slice (some ⟨w0.heap.size, 0, none⟩) len k) hS' hal (by simp) fun β' N' mv e1 e2 =>
    ⟨⟨h0, .inr ⟨w.heap.size, us, e, e1, heap_new _ _, hll, ⟨by simp, htag⟩, fun i hi => (by
        refine (hr i hi).move ?_ ?_ _ fun j hj u hu => hu
        · rw [← hw]; simp
        · intro c hc hx
          exact mv.keep c (by rw [hw]; exact hc) hx |>.imp id fun h => by rw [h, hw])⟩⟩,
      VR.sr_iff.2 ⟨e2, h0, .inr ⟨w.heap.size, k, e1, by rw [hw]; simp, hlen, hk, us, e, _, heap_new _ _, by simpa using hsz⟩⟩⟩
  obtain ⟨β', N', s1, s2, s3, s4, s5⟩ := st
  refine ⟨β', N', s1, s2, ⟨s3.os.trans hos, s3.tape.trans htp, s3.output.trans hou, by rw [← hw]; exact s3.size, fun c hc ho => ?_, fun c arr e' fz h => s3.shape c arr e' fz (by rw [hw]; exact h)⟩, s4, s5⟩
  obtain ⟨q1, q2⟩ := s3.blk c (by rw [hw]; exact hc) ho
  exact ⟨q1, by rw [q2, hw]⟩

theorem does_mk {t e : TypeId} {lo co : Operand} {ty : Ty} {by_ : Nat} (ho : o.op = .makeSlice t lo co) (hu : P.underlying t = some (.slice e)) (hn : sizeT P e = some ty.size) (h0 : 0 < ty.size) (hby : bytesT P e = some by_) (hz : zeroT P e ty = true) (hS : SimB X β N w L) (hal : ¬ N al) (htag : Ctx.tag ty e)
    {k k' : IntKind} {n c : Int} (hl : ρ lo = .int k n) (hc : ρ co = .int k' c) (hn0 : 0 ≤ n) (hnc : n ≤ c) (hcb : c * by_ ≤ 70368744177664) (hc2 : c ≤ 70368744177664) :
    Does P o ρ w (Step X β N w L al (updL L al (.arr ty (List.replicate n.toNat ty.dflt) true)) (.sr al 0 n.toNat ty.size none)) := by
  obtain ⟨i, z, h1, h2, h3, h4, h5⟩ := zeroT_run hz
  have hsz : i.size = ty.size := by obtain ⟨i', hi', hs⟩ := sizeT_info hn; rw [h1] at hi'; cases hi'; exact hs
  have hbs : i.bytes = by_ := by simpa [bytesT, h1] using hby
  have hrow := zeroRow (Y := All X β L) (w := w) h3 h0 h4 h5 n.toNat (c.toNat * ty.size) (Nat.mul_le_mul_right _ (by omega))
  have hb : (i.bytes : Int) * c ≤ 281474976710656 := by rw [hbs, Int.mul_comm]; omega
  have hrun := run_make (P := P) w t e i z hu h1 h2 k k' n c hn0 hnc hb (by omega)
  rw [hsz] at hrun
  refine ⟨.slice (some ⟨w.heap.size, 0, none⟩) n.toNat c.toNat, w.alloc (.cells (madeCells z.cells (c.toNat * ty.size)) e), .inl ?_,
    newArr (w := w) (w0 := w) rfl hS rfl rfl rfl hal htag h0 (by omega) (by simp) (by simp [madeCells]) (by simp [madeCells]; exact Nat.mul_le_mul_right _ (by omega)) fun i hi => ?_⟩
  · simp [execOp, ho, hl, hc, Sem.run_bind, hrun]
  · refine (hrow.1 i hi).congr fun j hj => ?_
    simp only [List.length_replicate] at hi
    have hlt : i * ty.size + j < c.toNat * ty.size := elem_lt (by omega) hj
    have e1 : (Array.range (c.toNat * ty.size))[i * ty.size + j]? = some (i * ty.size + j) := by rw [Array.getElem?_eq_getElem (by simpa using hlt)]; simp
    simp [madeCells, e1, List.getElem?_range hlt]

/-- A struct or a number in a live row is stored. -/
theorem does_store_eptr {t : TypeId} {xo yo : Operand} {n b i off : Nat} {ty : Ty} {L1 : Looks} {l : List ty.den} {val : AV} {cs : List D} {x : ty.den} (ho : o.op = .store t xo yo) (hn : sizeT P t = some n) (hS : SimB X β N w L1)
    (hx : VR (All X β L1) β N w (.eptr b i ty.size off) (ρ xo)) (hL : L1 b = .arr ty l true) (hi : i < l.length) (hle : off + n ≤ ty.size)
    (hv : VRs (All X β L1) β N w (cs.map AV.d) (ρ yo).cells.toList) (h1 : ∀ u ∈ (ρ yo).cells.toList, u.oneCell' = true) (hlen : cs.length = n) (hd : decP ty (splice (encC ty l[i]) off cs) = some (x, [])) :
    Does P o ρ w (Step X β N w L1 al (updL L1 b (.arr ty (l.set i x) true)) .top) := by
  obtain ⟨hN, c, hβ, hp⟩ := VR.eptr_iff.1 hx
  have hbx := hS.box b
  rw [hL] at hbx
  obtain ⟨h0, hbx⟩ := hbx
  rcases hbx with ⟨g1, _⟩ | ⟨c', arr, e, g1, g2, g3, g4, g5⟩
  · rw [hβ] at g1; cases g1
  rw [hβ] at g1; cases g1
  obtain ⟨v1, v2⟩ := (VRds_iff cs _).1 hv
  have hsz : (ρ yo).cells.size = n := by simpa [hlen] using v1.symm
  have hfit : i * ty.size + off + n ≤ arr.size := by
    have : (i + 1) * ty.size ≤ l.length * ty.size := Nat.mul_le_mul_right _ hi
    rw [Nat.add_mul] at this; omega
  obtain ⟨arr', k1, k2, k3, k4, k5⟩ := setCells_heap c e (ρ yo).cells.toList (i * ty.size + off) w arr g2 (by simp; omega)
  obtain ⟨r1, r2, r3, r4⟩ := setCells_rest c (ρ yo).cells.toList (i * ty.size + off) w
  refine ⟨undef, w.setCells c (i * ty.size + off) (ρ yo).cells.toList, .inr ⟨?_, rfl⟩, ?_⟩
  · have hrun := run_store_any (P := P) (off := i * ty.size + off) hn hsz h1 g2 (by omega)
    simp [execOp, ho, hp, Sem.run_bind, hrun]
  · refine Step.put hS (by rw [hL]; rfl) rfl hβ g2 k1 k2 r1 r2 r3 r4 (fun k hk => setCells_other c k hk _ _ _) fun mv => ⟨⟨h0, .inr ⟨c, arr', e, hβ, k1, by rw [k2]; simpa using g3, ⟨by simp, g4.2⟩, fun q hq => ?_⟩⟩, VR.top_iff.2 trivial⟩
    simp only [List.length_set] at hq
    by_cases hqi : q = i
    · subst hqi
      rw [List.getElem_set_self]
      refine (decP_RD ty _ _ _ _ hd fun j d hj => ?_).1
      rw [splice_get _ _ _ _ (by rw [encC_length]; omega)] at hj
      have old : ∀ (j : Nat) (d : D), (encC ty l[q])[j]? = some d → (j < off ∨ off + n ≤ j) → ∃ v, arr'[q * ty.size + j]? = some v ∧ VRd (All X β (updL L1 b (.arr ty (l.set q x) true))) (w.setCells c (q * ty.size + off) (ρ yo).cells.toList) d v := by
        intro j d hj hout
        obtain ⟨v, hv, hr⟩ := RD.cells (g5 q hi) j d hj
        refine ⟨v, ?_, hr.move mv.size mv.keep⟩
        rcases hout with h | h
        · rw [k3 _ (by omega)]; exact hv
        · rw [k5 _ (by simp [hsz]; omega)]; exact hv
      split at hj
      · rename_i q1; exact old j d hj (.inl q1)
      · rename_i q1
        split at hj
        · rename_i q2
          have hlt : j - off < (ρ yo).cells.toList.length := by simp [hsz]; omega
          have hu : (ρ yo).cells.toList[j - off]? = some (ρ yo).cells.toList[j - off] := List.getElem?_eq_getElem hlt
          refine ⟨_, ?_, (v2 _ d _ hj hu).move mv.size mv.keep⟩
          have := k4 _ _ hu
          rwa [show q * ty.size + off + (j - off) = q * ty.size + j by omega] at this
        · rename_i q2; exact old j d hj (.inr (by omega))
    · rw [List.getElem_set_ne (fun h => hqi h.symm)]
      refine (g5 q hq).move mv.size mv.keep _ fun j hj u hu => ?_
      by_cases hlt : q < i
      · have : (q + 1) * ty.size ≤ i * ty.size := Nat.mul_le_mul_right _ hlt
        rw [Nat.add_mul] at this
        rw [k3 _ (by omega)]; exact hu
      · have : (i + 1) * ty.size ≤ q * ty.size := Nat.mul_le_mul_right _ (by omega)
        rw [Nat.add_mul] at this
        rw [k5 _ (by simp [hsz]; omega)]; exact hu

/-- copy. -/
theorem does_cpy {B : Boxes} {c : Call} {xo yo : Operand} {t u e : TypeId} (ho : o.op = .call c) (hc : c.callee = .builtin .copy) (ha : c.args.toList = [xo, yo]) (ht : c.argTypes.toList = [t, u]) (hu : P.underlying t = some (.slice e)) {ty : Ty} (hn : sizeT P e = some ty.size) (h0 : 0 < ty.size)
    (hS : SimB X β N w (look B)) {b off len : Nat} {cap : Option Nat} {l : List ty.den} (hx : VR (All X β (look B)) β N w (.sr b off len ty.size cap) (ρ xo)) (hL : look B b = .arr ty l true) (hle : off ≤ l.length)
    {a : AV} {m : Nat} {ys : List ty.den} {rs : List Nat} (hy : VR (All X β (look B)) β N w a (ρ yo)) (hr : (headOf B ty a).run = some (m, ys, rs)) (hmy : min m len ≤ ys.length) :
    Does P o ρ w (Step X β N w (look B) al (updL (look B) b (.arr ty (splice l off (ys.take (min m len))) true)) (.d (.int .i64 ((min m len : Nat) : Int)))) := by
  obtain ⟨us, u1, u2, u3, u4, u5⟩ := headOf_sound (P := P) hS hr hy h0
  obtain ⟨inf, hi1, hi2⟩ := sizeT_info hn
  have ha' : c.args = #[xo, yo] := by rw [← Array.toArray_toList (xs := c.args), ha]
  have ht' : c.argTypes = #[t, u] := by rw [← Array.toArray_toList (xs := c.argTypes), ht]
  have hmin : Nat.min m len = min m len := rfl
  have hf := u3 (min m len) w (by omega) rfl
  obtain ⟨hN, hs, h⟩ := VR.sr_iff.1 hx
  have hbx := hS.box b
  rw [hL] at hbx
  obtain ⟨_, hbx⟩ := hbx
  rcases h with ⟨hβ, hv, rfl, rfl, _⟩ | ⟨cc, k, hβ, hv, hk, _, arr0, e0, fz0, ha0, hsz0⟩
  · refine ⟨goInt 0, w, .inl ?_, ?_⟩
    · simp only [Nat.min_zero, Nat.zero_mul, List.take_zero] at hf
      simp [execOp, ho, resolve, hc, ha', ht', invoke, builtin, Builtin.copy_, hv, run_underlying hu, u2, sizeOf, typeInfo, hi1, hi2, hf]
    · have hl0 : l = [] := by
        rcases hbx with ⟨_, g⟩ | ⟨c', arr, e', g1, _⟩
        · exact g
        · rw [hβ] at g1; cases g1
      subst hl0
      have hsp : splice ([] : List ty.den) 0 (ys.take (min m 0)) = [] := by simp [splice]
      rw [hsp]
      have hsame : updL (look B) b (.arr ty [] true) = look B := by
        funext q
        unfold updL
        split
        · rename_i h; rw [h]; exact hL.symm
        · rfl
      rw [hsame]
      exact Step.same hS (VR.d_iff.2 (by simp [goInt, VRd]))
  · rcases hbx with ⟨g1, _⟩ | ⟨c', arr, e', g1, g2, g3, g4, g5⟩
    · rw [hβ] at g1; cases g1
    rw [hβ] at g1; cases g1
    have htk : (us.take (min m len * ty.size)).length = (ys.take (min m len)).length * ty.size := by
      rw [List.length_take, List.length_take, u1]
      have : min m len * ty.size ≤ ys.length * ty.size := Nat.mul_le_mul_right _ hmy
      rw [Nat.min_eq_left this]
      congr 1
      omega
    have hfit : (off + (ys.take (min m len)).length) * ty.size ≤ arr.size := by
      rw [ha0] at g2; cases g2
      exact Nat.le_trans (Nat.mul_le_mul_right _ (by simp; omega)) hsz0
    refine ⟨goInt (min m len : Nat), w.setCells cc (off * ty.size) (us.take (min m len * ty.size)), .inl ?_, putArr hS hL hβ g2 hfit (by omega) htk (fun i hi => ?_) fun mv => VR.d_iff.2 rfl⟩
    · have hst := run_storeCells_cells (P := P) cc (off * ty.size) (us.take (min m len * ty.size)) 0 w
        (fun j hj => by
          rw [cell_of_arr g2]
          rw [htk] at hj
          rw [Nat.add_mul] at hfit
          simp
          omega)
        (fun j hj => by simp [World.frozen?, g2]) (fun u hu => u5 u (List.mem_of_mem_take hu))
      simp only [Nat.add_zero] at hst
      simp [execOp, ho, resolve, hc, ha', ht', invoke, builtin, Builtin.copy_, hv, run_underlying hu, u2, sizeOf, typeInfo, hi1, hi2, hmin, hf, hst]
    · have hi' : i < min m len := by simp at hi; omega
      have hil : i < ys.length := by omega
      have he : (ys.take (min m len))[i] = ys[i] := by simp
      rw [he]
      refine (u4 i hil).congr fun j hj => ?_
      rw [List.getElem?_take, if_pos (elem_lt hi' hj)]

end
end Go.Ev
