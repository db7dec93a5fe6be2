/- The evaluator's operations are the model's: literals, and all of them together. No condition. -/
import Derived.Test.YtnmakkgomplchaaGreatDoorEvO
namespace Go.Ev
set_option linter.unusedVariables false
set_option linter.unusedSimpArgs false
set_option linter.unusedSectionVars false
variable [Ctx]
section
variable {P : Program} {X : Blocks} {β : Map} {N : Nat → Prop} {w : World} {L : Looks} {al : Nat} {ρ : Operand → Value} {o : Oper}

theorem toD_isCell {B : Boxes} {a : AV} {x : D × List (Nat × Box)} (h : (toD B a).run = some x) : a.isCell = true := by
  unfold toD at h
  split at h
  · rfl
  · rfl
  · simp [M.run] at h

theorem toDs_isCell {B : Boxes} : ∀ (as : List AV) (x : List D × List (Nat × Box)), (toDs B as).run = some x → as.all AV.isCell = true
  | [], _, _ => rfl
  | a :: as, x, h => by
    simp only [toDs, M.run_bind] at h
    cases h1 : (toD B a).run with
    | none => rw [h1] at h; simp at h
    | some p =>
      rw [h1] at h
      simp only [Option.bind_some, M.run_bind] at h
      cases h2 : (toDs B as).run with
      | none => rw [h2] at h; simp at h
      | some q => simp only [List.all_cons, toD_isCell h1, toDs_isCell as q h2, Bool.and_self]

theorem cellsD_sound {B : Boxes} : ∀ (as : List AV) (xs : List (List D)) (ws : List (Nat × Box)) (us : List Value) (L1 : Looks), SimB X β N w L1 → Cl (look B) L1 → (cellsD B as).run = some (xs, ws) → VRs (All X β L1) β N w as us →
    SimB X β N w (updsL L1 ws) ∧ Fr (Own β L1) w (Own β (updsL L1 ws)) w ∧ Cl (look B) (updsL L1 ws) ∧ xs.length = us.length ∧
    ∀ (j : Nat) (c : List D) (u : Value), xs[j]? = some c → us[j]? = some u → VRs (All X β (updsL L1 ws)) β N w (c.map AV.d) u.cells.toList ∧ ∀ v ∈ u.cells.toList, v.oneCell' = true
  | [], xs, ws, us, L1, hS, hcl, hr, hv => by
    simp [cellsD, M.run] at hr
    obtain ⟨rfl, rfl⟩ := hr
    have := VRs.nil hv
    subst this
    exact ⟨hS, Fr.refl _ _, hcl, rfl, by simp⟩
  | a :: as, xs, ws, us, L1, hS, hcl, hr, hv => by
    obtain ⟨u, us, rfl, hu, hus⟩ := VRs.cons hv
    simp only [cellsD, M.run_bind] at hr
    cases h1 : (toDs B a.cells).run with
    | none => rw [h1] at hr; simp at hr
    | some p =>
      obtain ⟨x, w1⟩ := p
      rw [h1] at hr
      simp only [Option.bind_some, M.run_bind] at hr
      cases h2 : (cellsD B as).run with
      | none => rw [h2] at hr; simp at hr
      | some p =>
        obtain ⟨xs', w2⟩ := p
        rw [h2] at hr
        simp [M.run] at hr
        obtain ⟨rfl, rfl⟩ := hr
        obtain ⟨c1, c2⟩ := cells_VR hu (toDs_isCell _ _ h1)
        obtain ⟨a1, a2, a3, a4⟩ := toDs_sound a.cells x w1 _ L1 hS hcl h1 c1
        have mv := mv_cl (X := X) (N := N) a2
        obtain ⟨b1, b2, b3, b4, b5⟩ := cellsD_sound as xs' w2 us (updsL L1 w1) a1 a4 h2 (VRs.move mv _ _ hus)
        rw [updsL_append]
        refine ⟨b1, a2.trans b2, b3, by simp [b4], fun j c v hc hv' => ?_⟩
        cases j with
        | zero =>
          simp at hc hv'
          subst hc; subst hv'
          exact ⟨VRs.move (mv_cl (X := X) (N := N) b2) _ _ a3, c2⟩
        | succ j => exact b5 j c v (by simpa using hc) (by simpa using hv')

theorem decAll_run {t : Ty} {cs : List D} {x : t.den} (h : (decAll t cs).run = some x) : decP t cs = some (x, []) := by
  unfold decAll at h
  split at h
  · rename_i y hy; simp [M.run] at h; subst h; exact hy
  · simp [M.run] at h

theorem decP_len {t : Ty} {cs : List D} {x : t.den} (h : decP t cs = some (x, [])) {Y : Blocks} {g : Nat → Option Value} (hg : ∀ (j : Nat) (d : D), cs[j]? = some d → ∃ v, g j = some v ∧ VRd Y w d v) : cs.length = t.size ∧ RD Y w t x g := by
  obtain ⟨h1, h2, h3⟩ := decP_RD t cs x [] g h hg
  refine ⟨?_, h1⟩
  have := congrArg List.length h2
  simp at this
  omega

theorem litRow_sound {Y : Blocks} {t : Ty} : ∀ (ix : List Nat) (cs : List (List D)) (l l' : List t.den) (arr : Array Value) (ps : List (Nat × Value)), (litRow t ix cs l).run = some l' → ps.map (·.1) = ix → cs.length = ps.length →
    (∀ (j : Nat) (c : List D) (u : Nat × Value), cs[j]? = some c → ps[j]? = some u → VRs Y β N w (c.map AV.d) u.2.cells.toList) → (∀ i ∈ ix, i < l.length) → l.length * t.size ≤ arr.size → (∀ i (hi : i < l.length), RD Y w t l[i] (fun j => arr[i * t.size + j]?)) →
    ∃ arr', Instr.fill (fun i => some (i * t.size, t.size)) arr ps = some arr' ∧ arr'.size = arr.size ∧ l'.length = l.length ∧ ∀ i (hi : i < l'.length), RD Y w t l'[i] (fun j => arr'[i * t.size + j]?)
  | [], cs, l, l', arr, ps, hr, hix, hl, hv, hin, hsz, hrd => by
    have : ps = [] := by simpa using hix
    subst this
    have : cs = [] := by simpa using hl
    subst this
    simp [litRow, M.run] at hr
    subst hr
    exact ⟨arr, rfl, rfl, rfl, hrd⟩
  | i :: ix, cs, l, l', arr, ps, hr, hix, hl, hv, hin, hsz, hrd => by
    cases ps with
    | nil => simp at hix
    | cons p ps =>
      obtain ⟨i', v⟩ := p
      simp only [List.map_cons, List.cons.injEq] at hix
      obtain ⟨rfl, hix⟩ := hix
      cases cs with
      | nil => simp at hl
      | cons c cs =>
        simp only [litRow, M.run_bind] at hr
        cases h1 : (decAll t c).run with
        | none => rw [h1] at hr; simp at hr
        | some x =>
          rw [h1] at hr
          simp only [Option.bind_some] at hr
          have hd := decAll_run h1
          have hvc := hv 0 c (i', v) rfl rfl
          obtain ⟨v1, v2⟩ := (VRds_iff c _).1 hvc
          simp only [Array.length_toList] at v1
          obtain ⟨q1, q2⟩ := decP_len (w := w) (Y := Y) (g := fun j => v.cells[j]?) hd fun j d hj => by
            have hlt : j < v.cells.size := by have := (List.getElem?_eq_some_iff.1 hj).1; omega
            exact ⟨v.cells[j], Array.getElem?_eq_getElem hlt, v2 j d _ hj (by simp [hlt])⟩
          have hvs : v.cells.size = t.size := by omega
          have hi : i' < l.length := hin i' (by simp)
          have hfit : i' * t.size + v.cells.size ≤ arr.size := by
            have : (i' + 1) * t.size ≤ l.length * t.size := Nat.mul_le_mul_right _ hi
            rw [Nat.add_mul] at this; omega
          have hfold : ∀ (xs : List Value) (k off : Nat) (arr : Array Value), off + k + xs.length ≤ arr.size → (xs.zipIdx k).foldl (fun cs (c, j) => cs.setIfInBounds (off + j) c) arr = (splice arr.toList (off + k) xs).toArray := by
            intro xs
            induction xs with
            | nil => intro k off arr hk; simp [splice]
            | cons x xs ih =>
              intro k off arr hk
              simp only [List.zipIdx_cons, List.foldl_cons]
              rw [ih (k + 1) off _ (by simp at hk ⊢; omega)]
              apply Array.ext'
              apply List.ext_getElem?
              intro q
              simp only [List.length_cons] at hk
              rw [show (splice (arr.setIfInBounds (off + k) x).toList (off + (k + 1)) xs).toArray.toList = splice (arr.toList.set (off + k) x) (off + (k + 1)) xs by simp]
              rw [show (splice arr.toList (off + k) (x :: xs)).toArray.toList = splice arr.toList (off + k) (x :: xs) by simp]
              rw [splice_get _ _ _ _ (by simp; omega), splice_get _ _ _ _ (by simp; omega)]
              simp only [List.length_cons, List.getElem?_set, Array.length_toList]
              by_cases q1 : q < off + k
              · simp [q1, show q < off + (k + 1) by omega, show off + k ≠ q by omega]
              · by_cases q2 : q = off + k
                · subst q2; simp [show off + k < off + (k + 1) by omega, show off + k < arr.size by omega]
                · by_cases q3 : q < off + (k + 1) + xs.length
                  · simp [q1, show ¬ q < off + (k + 1) by omega, q3, show q < off + k + (xs.length + 1) by omega, show q - (off + k) = (q - (off + (k + 1))) + 1 by omega]
                  · simp [q1, show ¬ q < off + (k + 1) by omega, q3, show ¬ q < off + k + (xs.length + 1) by omega, show off + k ≠ q by omega]
          have hf := hfold v.cells.toList 0 (i' * t.size) arr (by simp; omega)
          rw [Nat.add_zero] at hf
          have hspl : (splice arr.toList (i' * t.size) v.cells.toList).toArray.size = arr.size := by rw [List.size_toArray, splice_length _ _ _ (by simp; omega)]; simp
          obtain ⟨arr', g1, g2, g3, g4⟩ := litRow_sound ix cs (l.set i' x) l' (splice arr.toList (i' * t.size) v.cells.toList).toArray ps hr hix (by simpa using hl)
            (fun j c' u' h1 h2 => hv (j + 1) c' u' (by simpa using h1) (by simpa using h2)) (fun q hq => by simpa using hin q (by simp [hq])) (by rw [hspl]; simpa using hsz) (fun q hq => by
              simp only [List.length_set] at hq
              have get : ∀ j, (splice arr.toList (i' * t.size) v.cells.toList).toArray[j]? = if j < i' * t.size then arr[j]? else if j < i' * t.size + t.size then v.cells[j - i' * t.size]? else arr[j]? := by
                intro j
                rw [List.getElem?_toArray, splice_get _ _ _ _ (by simp; omega)]
                simp [hvs]
              by_cases hqi : q = i'
              · subst hqi
                rw [List.getElem_set_self]
                refine q2.congr fun j hj => ?_
                rw [get, if_neg (by omega), if_pos (by omega)]
                congr 1
                omega
              · rw [List.getElem_set_ne (fun h => hqi h.symm)]
                refine (hrd q hq).congr fun j hj => ?_
                rw [get]
                by_cases hlt : q < i'
                · have : (q + 1) * t.size ≤ i' * t.size := Nat.mul_le_mul_right _ hlt
                  rw [Nat.add_mul] at this
                  rw [if_pos (by omega)]
                · have : (i' + 1) * t.size ≤ q * t.size := Nat.mul_le_mul_right _ (by omega)
                  rw [Nat.add_mul] at this
                  rw [if_neg (by omega), if_neg (by omega)])
          refine ⟨arr', ?_, g2.trans hspl, by simpa using g3, g4⟩
          unfold Instr.fill
          simp only
          rw [if_neg (by simp [hvs]; omega)]
          have hf' : (v.cells.zipIdx.foldl (fun cs x => match x with | (c, j) => cs.setIfInBounds (i' * t.size + j) c) arr) = (splice arr.toList (i' * t.size) v.cells.toList).toArray := by
            rw [← Array.foldl_toList, Array.toList_zipIdx]
            simpa using hf
          rw [← g1]
          congr 1

theorem does_lit {B : Boxes} {t e : TypeId} {n : Nat} {ps : Array (Nat × Operand)} {ty : Ty} (ho : o.op = .buildSlice t n ps) (hu : P.underlying t = some (.slice e)) (hn : sizeT P e = some ty.size) (h0 : 0 < ty.size) (hz : zeroT P e ty = true) (hsz : n * ty.size ≤ 16777216)
    (hS : SimB X β N w (look B)) (hal : ¬ N al) (htag : Ctx.tag ty e) {as : List AV} (hx : VRs (All X β (look B)) β N w as ((ps.toList.map (·.2)).map ρ)) {cs : List (List D)} {ws : List (Nat × Box)} (hc : (cellsD B as).run = some (cs, ws))
    {l : List ty.den} (hr : (litRow ty (ps.toList.map (·.1)) cs (List.replicate n ty.dflt)).run = some l) (hix : ∀ i ∈ ps.toList.map (·.1), i < n) :
    Does P o ρ w (Step X β N w (look B) al (updsL (look B) (ws ++ [(al, .arr ty l true)])) (.sr al 0 n ty.size (some n))) := by
  obtain ⟨inf, z, hi1, hz', hzs, hz4, hz5⟩ := zeroT_run hz
  have hi2 : inf.size = ty.size := by obtain ⟨i', hi', hs⟩ := sizeT_info hn; rw [hi1] at hi'; cases hi'; exact hs
  obtain ⟨a1, a2, a3, a4, a5⟩ := cellsD_sound as cs ws _ (look B) hS (Cl.refl _) hc hx
  obtain ⟨r1, r2⟩ := zeroRow (Y := All X β (updsL (look B) ws)) (w := w) hzs h0 hz4 hz5 n (n * ty.size) (Nat.le_refl _)
  have hzl : ∀ q : Nat, ((Array.range (n * ty.size)).map (fun q => z.cells[q % z.cells.size]!))[q]? = ((List.range (n * ty.size)).map fun q => z.cells[q % z.cells.size]!)[q]? := by
    intro q
    have : ((Array.range (n * ty.size)).map (fun q => z.cells[q % z.cells.size]!)).toList = (List.range (n * ty.size)).map fun q => z.cells[q % z.cells.size]! := by simp
    rw [← this, Array.getElem?_toList]
  obtain ⟨arr, g1, g2, g3, g4⟩ := litRow_sound (Y := All X β (updsL (look B) ws)) (β := β) (N := N) (w := w) (ps.toList.map (·.1)) cs (List.replicate n ty.dflt) l ((Array.range (n * ty.size)).map fun q => z.cells[q % z.cells.size]!) (ps.toList.map fun x => (x.1, ρ x.2)) hr
    (by rw [List.map_map]; rfl) (by simpa using a4) (fun j c u hc hu => by
      simp only [List.getElem?_map, Option.map_eq_some_iff] at hu
      obtain ⟨p, hp, rfl⟩ := hu
      exact (a5 j c (ρ p.2) hc (by simp [List.getElem?_map, hp])).1) (by simpa using hix) (by simp) (fun i hi => (r1 i hi).congr fun j _ => hzl _)
  refine ⟨.slice (some ⟨w.heap.size, 0, none⟩) n n, w.alloc (.cells arr e), .inl ?_, ?_⟩
  · have hbig : ¬ (2 ^ 24 < n * ty.size) := by omega
    by_cases hn0 : n * ty.size = 0
    · have harr : (Array.range (n * ty.size)).map (fun q => z.cells[q % z.cells.size]!) = #[] := by rw [hn0]; simp [Array.range_zero']
      rw [harr] at g1
      simp [execOp, ho, Instr.buildSlice, run_underlying hu, sizeOf, typeInfo, hi1, hi2, hn0, g1, newRow, Array.range_zero']
    · simp [execOp, ho, Instr.buildSlice, run_underlying hu, sizeOf, typeInfo, zeroValue, hi1, hz', hi2, hn0, hbig, g1, newRow]
  · rw [updsL_append]
    have st := newArr (w := w) (w0 := w) (L := updsL (look B) ws) (al := al) (l := l) (us := arr) (e := e) (len := n) (k := n) (cap := some n) rfl a1 rfl rfl rfl hal htag h0 (Nat.le_refl _) (fun k' h => by cases h; rfl) (by rw [g2]; simp) (by rw [g2, g3]; simp) g4
    obtain ⟨β', N', s1, s2, s3, s4, s5⟩ := st
    exact ⟨β', N', s1, s2, a2.trans s3, s4, s5⟩

end
end Go.Ev
