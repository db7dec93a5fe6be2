/- The evaluator's operations are the model's: loads, stores, elements. No condition. -/
import Derived.Test.YtnmakkgomplchaaGreatDoorEvF
namespace Go.Ev
set_option linter.unusedVariables false
set_option linter.unusedSimpArgs false
set_option linter.unusedSectionVars false
variable [Ctx]
section
variable {P : Program} {X : Blocks} {β : Map} {N : Nat → Prop} {w : World} {L : Looks} {al : Nat} {ρ : Operand → Value} {o : Oper}

theorem cell_of_arr {c j : Nat} {arr : Array Value} {e : TypeId} {fz : Nat × Nat} (h : w.heap[c]? = some (.cells arr e fz)) : w.cell? ⟨c, j, none⟩ = arr[j]? := by
  simp [World.cell?, h]

/-- The cells of plain data, as abstract values. -/
theorem encVR {Y : Blocks} {t : Ty} {x : t.den} {g : Nat → Option Value} (h : RD Y w t x g) (j : Nat) (a : AV) (ha : ((encC t x).map AV.d)[j]? = some a) :
    ∃ v, g j = some v ∧ VR Y β N w a v ∧ v.oneCell' = true := by
  simp only [List.getElem?_map, Option.map_eq_some_iff] at ha
  obtain ⟨d, hd, rfl⟩ := ha
  obtain ⟨v, hv, hr⟩ := RD.cells h j d hd
  exact ⟨v, hv, VR.d_iff.2 hr, VRd.oneCell hr⟩

theorem cellsAt_sound {B : Boxes} {p : AV} {n : Nat} {cs : List AV} {rs : List Nat} {v : Value} (hr : (cellsAt B p n).run = some (cs, rs)) (hS : SimB X β N w (look B))
    (hv : VR (All X β (look B)) β N w p v) :
    ∃ c off, v = .pointer (some ⟨c, off, none⟩) ∧ cs.length = n ∧ ∀ j a, cs[j]? = some a → ∃ u, w.cell? ⟨c, off + j, none⟩ = some u ∧ VR (All X β (look B)) β N w a u ∧ u.oneCell' = true := by
  unfold cellsAt at hr
  split at hr
  · rename_i b off
    obtain ⟨hN, c, hc, rfl⟩ := VR.ptr_iff.1 hv
    split at hr
    · rename_i l hl
      rw [M.run_ifb] at hr
      obtain ⟨hle, hr⟩ := hr
      simp [M.run] at hr
      obtain ⟨rfl, rfl⟩ := hr
      have hle' := Nat.le_of_ble_eq_true hle
      have hb := hS.box b
      rw [hl] at hb
      obtain ⟨c', arr, e, h1, h2, h3, h4⟩ := hb
      rw [hc] at h1; cases h1
      refine ⟨c, off, rfl, by simp; omega, fun j a ha => ?_⟩
      have hj : j < n := by
        have := (List.getElem?_eq_some_iff.1 ha).1; simp at this; omega
      rw [List.getElem?_take, if_pos hj, List.getElem?_drop] at ha
      have hlt := (List.getElem?_eq_some_iff.1 ha).1
      have hg : arr[off + j]? = some arr[off + j] := Array.getElem?_eq_getElem (by omega)
      exact ⟨_, by rw [cell_of_arr h2]; exact hg, h4 _ a _ ha hg⟩
    · simp [M.run] at hr
  · rename_i b i sz off
    obtain ⟨hN, c, hc, rfl⟩ := VR.eptr_iff.1 hv
    split at hr
    · rename_i t l q hl
      rw [M.run_ifb] at hr
      obtain ⟨hle, hr⟩ := hr
      rw [M.run_chk] at hr
      obtain ⟨hi, hr⟩ := hr
      simp [M.run] at hr
      obtain ⟨rfl, rfl⟩ := hr
      simp only [Bool.and_eq_true, beq_iff_eq] at hle
      obtain ⟨rfl, hle⟩ := hle
      have hle' := Nat.le_of_ble_eq_true hle
      have hi' : i < l.length := by simpa using hi
      have hb := hS.box b
      rw [hl] at hb
      obtain ⟨h0, hb⟩ := hb
      rcases hb with ⟨g1, _⟩ | ⟨c', arr, e, h1, h2, h3, h4, h5⟩
      · rw [hc] at g1; cases g1
      · rw [hc] at h1; cases h1
        refine ⟨c, _, rfl, by simp [encC_length]; omega, fun j a ha => ?_⟩
        rw [← List.map_drop, ← List.map_take] at ha
        have hj : j < n := by
          have := (List.getElem?_eq_some_iff.1 ha).1; simp at this; omega
        have hg : l[i]?.getD t.dflt = l[i] := by simp [List.getElem?_eq_getElem hi']
        rw [hg] at ha
        have ha' : ((encC t l[i]).map AV.d)[off + j]? = some a := by
          rw [List.getElem?_map] at ha ⊢
          rw [List.getElem?_take, if_pos hj, List.getElem?_drop] at ha
          exact ha
        obtain ⟨v, hv, hr⟩ := encVR (h5 i hi') _ a ha'
        refine ⟨v, ?_, hr⟩
        rw [cell_of_arr h2, Nat.add_assoc]
        exact hv
    · simp [M.run] at hr
  · rename_i ds off
    obtain ⟨c, base, hlt, hx, rfl, hcs⟩ := VR.cptr_iff.1 hv
    rw [M.run_ifb] at hr
    obtain ⟨hle, hr⟩ := hr
    simp [M.run] at hr
    obtain ⟨rfl, rfl⟩ := hr
    have hle' := Nat.le_of_ble_eq_true hle
    refine ⟨c, base + off, rfl, by simp; omega, fun j a ha => ?_⟩
    rw [← List.map_drop, ← List.map_take] at ha
    have hj : j < n := by
      have := (List.getElem?_eq_some_iff.1 ha).1; simp at this; omega
    rw [List.getElem?_map, List.getElem?_take, if_pos hj, List.getElem?_drop, Option.map_eq_some_iff] at ha
    obtain ⟨d, hd, rfl⟩ := ha
    obtain ⟨u, hu, hr⟩ := hcs _ d hd
    exact ⟨u, by rw [Nat.add_assoc]; exact hu, VR.d_iff.2 hr, VRd.oneCell hr⟩
  · simp [M.run] at hr

/-- Cells that are there, as a row. -/
theorem rows_of {Y : Blocks} {c off : Nat} : ∀ (cs : List AV), (∀ j a, cs[j]? = some a → ∃ u, w.cell? ⟨c, off + j, none⟩ = some u ∧ VR Y β N w a u ∧ u.oneCell' = true) →
    ∃ us : List Value, us.length = cs.length ∧ VRs Y β N w cs us ∧ (∀ u ∈ us, u.oneCell' = true) ∧ ∀ j u, us[j]? = some u → w.cell? ⟨c, off + j, none⟩ = some u
  | [], _ => ⟨[], rfl, by unfold VRs; trivial, by simp, by simp⟩
  | a :: cs, h => by
    obtain ⟨u, h1, h2, h3⟩ := h 0 a rfl
    obtain ⟨us, g1, g2, g3, g4⟩ := rows_of (off := off + 1) cs fun j a ha => by
      have := h (j + 1) a (by simpa using ha)
      rwa [show off + (j + 1) = off + 1 + j by omega] at this
    refine ⟨u :: us, by simp [g1], ?_, ?_, ?_⟩
    · unfold VRs; exact ⟨h2, g2⟩
    · intro x hx
      rcases List.mem_cons.1 hx with rfl | hx
      · exact h3
      · exact g3 x hx
    · intro j x hx
      cases j with
      | zero => simp at hx; subst hx; exact h1
      | succ j =>
        have := g4 j x (by simpa using hx)
        rwa [show off + (j + 1) = off + 1 + j by omega]

theorem sizeT_info {t : TypeId} {n : Nat} (h : sizeT P t = some n) : ∃ i, P.info? t = some i ∧ i.size = n := by
  unfold sizeT at h
  cases hi : P.info? t with
  | none => simp [hi] at h
  | some i => exact ⟨i, rfl, by simpa [hi] using h⟩

theorem run_isAgg {t : TypeId} (h : (P.underlying t).isSome = true) : (isAgg t).run P w = .ok (aggT P t) w := by
  unfold isAgg aggT
  cases hu : P.underlying t with
  | none => simp [hu] at h
  | some d =>
    rw [Sem.run_bind, run_underlying hu w]
    cases d <;> rfl

theorem run_loadVar_any {t : TypeId} {n c off : Nat} (hu : (P.underlying t).isSome = true) (hn : sizeT P t = some n) {us : List Value} (hl : us.length = n) (hc : ∀ j u, us[j]? = some u → w.cell? ⟨c, off + j, none⟩ = some u)
    (hone : aggT P t = false → n = 1) :
    (loadVar t ⟨c, off, none⟩).run P w = .ok (if aggT P t then .agg us.toArray else us.headD undef) w := by
  obtain ⟨i, hi, rfl⟩ := sizeT_info hn
  unfold loadVar
  rw [Sem.run_bind, run_isAgg hu]
  simp only [Result.andThen_ok]
  cases ha : aggT P t with
  | true =>
    have hrun : (loadCells ⟨c, off, none⟩ us.length).run P w = .ok us.toArray w := run_loadCells_list (P := P) w ⟨c, off, none⟩ us (fun j v hv => by rw [Addr.add_mid]; exact hc j v hv)
    simp [Sem.run_bind, sizeOf, typeInfo, hi, ← hl, hrun]
  | false =>
    have := hone ha
    cases us with
    | nil => simp at hl; omega
    | cons u us =>
      have h0 := hc 0 u rfl
      simp at h0
      simp [run_load, h0]

theorem does_load {B : Boxes} {t : TypeId} {x : Operand} {n : Nat} (ho : o.op = .load t x) (hu : (P.underlying t).isSome = true) (hn : sizeT P t = some n) (hS : SimB X β N w (look B)) {p : AV}
    (hx : VR (All X β (look B)) β N w p (ρ x)) {cs : List AV} {rs : List Nat} (hr : (cellsAt B p n).run = some (cs, rs)) {val : AV}
    (hval : (aggT P t = true ∧ val = .agg cs) ∨ (aggT P t = false ∧ cs = [val])) :
    Does P o ρ w (Step X β N w (look B) al (look B) val) := by
  obtain ⟨c, off, hp, hl, hc⟩ := cellsAt_sound hr hS hx
  obtain ⟨us, g1, g2, g3, g4⟩ := rows_of cs hc
  refine ⟨if aggT P t then .agg us.toArray else us.headD undef, w, .inl ?_, Step.same hS ?_⟩
  · have := run_loadVar_any (P := P) hu hn (g1.trans hl) g4 (fun ha => hval.elim (fun h => by rw [ha] at h; exact absurd h.1 (by simp)) (fun h => by rw [h.2] at hl; simpa using hl.symm))
    simp [execOp, ho, Instr.loadAt, hp, Instr.sureAddr, Sem.run_bind, this]
  · rcases hval with ⟨ha, rfl⟩ | ⟨ha, rfl⟩
    · rw [if_pos ha]; exact VR.agg_iff.2 ⟨_, rfl, g2⟩
    · rw [if_neg (by simp [ha])]
      obtain ⟨u, rfl, hu⟩ := VRs.one g2
      exact hu

theorem setCells_heap (c : Nat) (t : TypeId) : ∀ (vs : List Value) (off : Nat) (w : World) (arr : Array Value), w.heap[c]? = some (.cells arr t (0, 0)) → off + vs.length ≤ arr.size →
    ∃ arr', (w.setCells c off vs).heap[c]? = some (.cells arr' t (0, 0)) ∧ arr'.size = arr.size ∧ (∀ j, j < off → arr'[j]? = arr[j]?) ∧ (∀ j u, vs[j]? = some u → arr'[off + j]? = some u) ∧ (∀ j, off + vs.length ≤ j → arr'[j]? = arr[j]?)
  | [], off, w, arr, h, hl => ⟨arr, h, rfl, fun _ _ => rfl, by simp, fun _ _ => rfl⟩
  | v :: vs, off, w, arr, h, hl => by
    have h1 := heap_setCell_same w c off arr t v h
    obtain ⟨arr', g1, g2, g3, g4, g5⟩ := setCells_heap c t vs (off + 1) (w.setCell ⟨c, off, none⟩ v) (arr.setIfInBounds off v) h1 (by simp at hl ⊢; omega)
    refine ⟨arr', g1, by simpa using g2, fun j hj => ?_, fun j u hu => ?_, fun j hj => ?_⟩
    · rw [g3 j (by omega), Array.getElem?_setIfInBounds, if_neg (by omega)]
    · cases j with
      | zero =>
        simp at hu; subst hu
        simp at hl
        rw [Nat.add_zero, g3 off (by omega), Array.getElem?_setIfInBounds, if_pos rfl, if_pos (by omega)]
      | succ j =>
        have := g4 j u (by simpa using hu)
        rwa [show off + (j + 1) = off + 1 + j by omega]
    · rw [g5 j (by simp at hj; omega), Array.getElem?_setIfInBounds, if_neg (by simp at hj; omega)]

theorem setCells_other (c k : Nat) (h : k ≠ c) : ∀ (vs : List Value) (off : Nat) (w : World), (w.setCells c off vs).heap[k]? = w.heap[k]?
  | [], _, _ => rfl
  | v :: vs, off, w => by
    show ((w.setCell ⟨c, off, none⟩ v).setCells c (off + 1) vs).heap[k]? = _
    rw [setCells_other c k h vs (off + 1), heap_setCell_other w ⟨c, off, none⟩ k v h]

theorem setCells_rest (c : Nat) : ∀ (vs : List Value) (off : Nat) (w : World), (w.setCells c off vs).heap.size = w.heap.size ∧ (w.setCells c off vs).os = w.os ∧ (w.setCells c off vs).tape = w.tape ∧ (w.setCells c off vs).output = w.output
  | [], _, _ => ⟨rfl, rfl, rfl, rfl⟩
  | v :: vs, off, w => by
    obtain ⟨a, b, d, e⟩ := setCells_rest c vs (off + 1) (w.setCell ⟨c, off, none⟩ v)
    refine ⟨a.trans ?_, b.trans rfl, d.trans rfl, e.trans rfl⟩
    simp [World.setCell]

theorem run_store_any {t : TypeId} {n c off : Nat} {arr : Array Value} {e : TypeId} (hn : sizeT P t = some n) {v : Value} (hl : v.cells.size = n) (h1 : ∀ u ∈ v.cells.toList, u.oneCell' = true)
    (ha : w.heap[c]? = some (.cells arr e (0, 0))) (hb : off + n ≤ arr.size) :
    (Instr.storeAt t (.pointer (some ⟨c, off, none⟩)) v).run P w = .ok () (w.setCells c off v.cells.toList) := by
  obtain ⟨i, hi, rfl⟩ := sizeT_info hn
  have := run_storeCells_cells (P := P) c off v.cells.toList 0 w
    (fun j hj => by
      rw [cell_of_arr ha]
      simp at hj ⊢
      omega)
    (fun j hj => by simp [World.frozen?, ha]) h1
  simp at this
  simp [Instr.storeAt, Instr.sureAddr, storeVar, sizeOf, typeInfo, hi, hl, this]

theorem splice_get {α : Type} (l xs : List α) (off j : Nat) (h : off + xs.length ≤ l.length) :
    (splice l off xs)[j]? = if j < off then l[j]? else if j < off + xs.length then xs[j - off]? else l[j]? := by
  unfold splice
  rw [List.append_assoc, List.getElem?_append, List.length_take, Nat.min_eq_left (by omega)]
  split
  · rename_i h1; rw [List.getElem?_take, if_pos h1]
  · rename_i h1
    rw [List.getElem?_append]
    split
    · rename_i h2; rw [if_pos (by omega)]
    · rename_i h2
      rw [if_neg (by omega), List.getElem?_drop]
      congr 1
      omega

theorem splice_length {α : Type} (l xs : List α) (off : Nat) (h : off + xs.length ≤ l.length) : (splice l off xs).length = l.length := by
  unfold splice
  simp
  omega

/-- A store into a box of cells. -/
theorem does_store_ptr {t : TypeId} {x y : Operand} {n b off : Nat} {l : List AV} {val : AV} (ho : o.op = .store t x y) (hn : sizeT P t = some n) (hS : SimB X β N w L)
    (hx : VR (All X β L) β N w (.ptr b off) (ρ x)) (hL : L b = .cells l) (hv : VR (All X β L) β N w val (ρ y)) (hc : val.cells.all AV.isCell = true) (hlen : val.cells.length = n) (hle : off + n ≤ l.length) :
    Does P o ρ w (Step X β N w L al (updL L b (.cells (splice l off val.cells))) .top) := by
  obtain ⟨hN, c, hβ, hp⟩ := VR.ptr_iff.1 hx
  obtain ⟨h1, h2⟩ := cells_VR hv hc
  have hbx := hS.box b
  rw [hL] at hbx
  obtain ⟨c', arr, e, g1, g2, g3, g4⟩ := hbx
  rw [hβ] at g1; cases g1
  have hsz : (ρ y).cells.size = n := by have := VRs.len _ _ h1; simp at this; omega
  obtain ⟨arr', k1, k2, k3, k4, k5⟩ := setCells_heap c e (ρ y).cells.toList off w arr g2 (by simp; omega)
  obtain ⟨r1, r2, r3, r4⟩ := setCells_rest c (ρ y).cells.toList off w
  refine ⟨undef, w.setCells c off (ρ y).cells.toList, .inr ⟨?_, rfl⟩, ?_⟩
  · have hrun := run_store_any (P := P) (off := off) hn hsz h2 g2 (by omega)
    simp [execOp, ho, hp, Sem.run_bind, hrun]
  · refine Step.put hS (by rw [hL]; rfl) rfl hβ g2 k1 k2 r1 r2 r3 r4 (fun k hk => setCells_other c k hk _ _ _) fun mv => ⟨⟨c, arr', e, hβ, k1, ?_, ?_⟩, VR.top_iff.2 trivial⟩
    · rw [k2, splice_length _ _ _ (by omega)]; exact g3
    · intro j a v ha hv'
      rw [splice_get _ _ _ _ (by omega)] at ha
      split at ha
      · rename_i hj
        rw [k3 j hj] at hv'
        exact ⟨(g4 j a v ha hv').1.move mv, (g4 j a v ha hv').2⟩
      · rename_i hj
        split at ha
        · rename_i hj2
          have hj3 : j - off < (ρ y).cells.toList.length := by simp; omega
          have hu : (ρ y).cells.toList[j - off]? = some ((ρ y).cells.toList[j - off]) := List.getElem?_eq_getElem hj3
          have := k4 (j - off) _ hu
          rw [show off + (j - off) = j by omega] at this
          rw [this] at hv'
          cases hv'
          exact ⟨(VRs.get _ _ h1 _ a _ ha hu).move mv, h2 _ (List.getElem_mem _)⟩
        · rename_i hj2
          rw [k5 j (by simp; omega)] at hv'
          exact ⟨(g4 j a v ha hv').1.move mv, (g4 j a v ha hv').2⟩

end
end Go.Ev
