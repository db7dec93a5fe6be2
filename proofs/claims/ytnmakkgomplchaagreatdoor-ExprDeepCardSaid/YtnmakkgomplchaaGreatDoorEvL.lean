/- The evaluator's operations are the model's: cuts of slices, structs that are built. No condition. -/
import Derived.Test.YtnmakkgomplchaaGreatDoorEvK
namespace Go.Ev
set_option linter.unusedVariables false
set_option linter.unusedSimpArgs false
set_option linter.unusedSectionVars false
variable [Ctx]
section
variable {P : Program} {X : Blocks} {β : Map} {N : Nat → Prop} {w : World} {L : Looks} {al : Nat} {ρ : Operand → Value} {o : Oper}

theorem run_slice_sl {t e : TypeId} {sz : Nat} (hu : P.underlying t = some (.slice e)) (hn : sizeT P e = some sz) {a : Option Addr} {len cap : Nat} {lo hi : Option Operand} {nl nh : Option Int} (hlo : BoundIs ρ lo nl) (hhi : BoundIs ρ hi nh)
    {h l top : Nat} (hh : (bound nh len top).run = some h) (hl : (bound nl 0 h).run = some l) (hc : top ≤ cap) (hlt : len ≤ top) :
    (Instr.sliceAt t (.slice a len cap) (lo.map ρ) (hi.map ρ) none).run P w = .ok (.slice (if cap = l then a else a.map (·.add (l * sz))) (h - l) (cap - l)) w ∧ h ≤ top ∧ l ≤ h := by
  obtain ⟨i, hi2, rfl⟩ := sizeT_info hn
  have hbs := run_sliceBounds (P := P) (w := w) (isSlice := true) (cap := cap) hlo hhi (len := len) (top := top) (h := h) (l := l) hh hl hc
  refine ⟨?_, ?_, ?_⟩
  · rw [run_sliceAt (.inl ⟨e, hu⟩)]
    simp [Instr.slice, Sem.run_bind, run_underlying hu, hbs, sizeOf, typeInfo, hi2]
  · rcases bound_run hh with ⟨_, e2⟩ | ⟨j, _, e2, e3, e4⟩ <;> omega
  · rcases bound_run hl with ⟨_, e2⟩ | ⟨j, _, e2, e3, e4⟩ <;> omega

theorem exec_slice {t : TypeId} {xo : Operand} {lo hi : Option Operand} (ho : o.op = .slice t xo lo hi none) {u v : Value} (hu : ρ xo = u) (h : (Instr.sliceAt t u (lo.map ρ) (hi.map ρ) none).run P w = .ok v w) : (execOp ρ o).run P w = .ok (.value v) w := by
  subst hu
  simp [execOp, ho, Sem.run_bind, h]

theorem does_cut_sl {t e : TypeId} {xo : Operand} {lo hi : Option Operand} (ho : o.op = .slice t xo lo hi none) {ty : Ty} (hu : P.underlying t = some (.slice e)) (hn : sizeT P e = some ty.size) (hS : SimB X β N w L) {xs : List ty.den}
    (hx : VR (All X β L) β N w (.d (.sl ty xs)) (ρ xo)) {nl nh : Option Int} (hlo : BoundIs ρ lo nl) (hhi : BoundIs ρ hi nh) {h l : Nat} (hh : (bound nh xs.length xs.length).run = some h) (hl : (bound nl 0 h).run = some l) :
    Does P o ρ w (Step X β N w L al L (.d (.sl ty ((xs.take h).drop l)))) := by
  have hr : RD (All X β L) w (.sl ty) xs (fun _ => some (ρ xo)) := VR.d_iff.1 hx
  obtain ⟨v, e1, hq⟩ := RD.slice hr
  cases e1
  rcases hq with ⟨a, cap, hv, ha, rfl⟩ | ⟨c, off, cap, hv, hc, hb, hX, hel⟩
  · obtain ⟨h1, h2, h3⟩ := run_slice_sl (P := P) (w := w) (a := a) (cap := cap) hu hn hlo hhi (len := 0) (top := 0) (by simpa using hh) hl (Nat.zero_le _) (Nat.le_refl _)
    have h4 : h = 0 := by omega
    have h5 : l = 0 := by omega
    subst h4; subst h5
    refine ⟨.slice (if cap = 0 then a else a.map (·.add (0 * ty.size))) 0 cap, w, .inl ?_, Step.same hS (VR.d_iff.2 ?_)⟩
    · exact exec_slice ho hv (by simpa using h1)
    · simp only [List.take_nil, List.drop_nil]
      refine RD.empty ?_ rfl
      intro hn
      split at hn
      · exact ha hn
      · exact ha (by simpa using hn)
  · obtain ⟨h1, h2, h3⟩ := run_slice_sl (P := P) (w := w) (a := some ⟨c, off, none⟩) (cap := cap) hu hn hlo hhi hh hl hc (Nat.le_refl _)
    have hlen : ((xs.take h).drop l).length = h - l := by simp; omega
    by_cases hcl : cap = l
    · refine ⟨.slice (some ⟨c, off, none⟩) (h - l) (cap - l), w, .inl ?_, Step.same hS (VR.d_iff.2 ?_)⟩
      · rw [if_pos hcl] at h1; exact exec_slice ho hv h1
      · refine RD.sl c off (cap - l) (by rw [hlen]) (by rw [hlen]; omega) hb hX fun i hi => ?_
        rw [hlen] at hi; omega
    · refine ⟨.slice (some ⟨c, off + l * ty.size, none⟩) (h - l) (cap - l), w, .inl ?_, Step.same hS (VR.d_iff.2 ?_)⟩
      · rw [if_neg hcl, Option.map_some, Addr.add_mid] at h1; exact exec_slice ho hv h1
      · refine RD.sl c (off + l * ty.size) (cap - l) (by rw [hlen]) (by rw [hlen]; omega) hb hX fun i hi => ?_
        rw [hlen] at hi
        have hlt : l + i < xs.length := by omega
        have he : ((xs.take h).drop l)[i]'(by rw [hlen]; exact hi) = xs[l + i] := by simp
        rw [he]
        refine (hel (l + i) hlt).congr fun j hj => ?_
        rw [show off + l * ty.size + i * ty.size + j = off + (l + i) * ty.size + j by rw [Nat.add_mul]; omega]

theorem does_cut_nils {t e : TypeId} {xo : Operand} {lo hi : Option Operand} (ho : o.op = .slice t xo lo hi none) {sz : Nat} (hu : P.underlying t = some (.slice e)) (hn : sizeT P e = some sz) (hS : SimB X β N w L)
    (hx : ρ xo = .slice none 0 0) {nl nh : Option Int} (hlo : BoundIs ρ lo nl) (hhi : BoundIs ρ hi nh) {h l : Nat} (hh : (bound nh 0 0).run = some h) (hl : (bound nl 0 h).run = some l) :
    Does P o ρ w (Step X β N w L al L (.d .nils)) := by
  obtain ⟨h1, h2, h3⟩ := run_slice_sl (P := P) (w := w) (a := none) (cap := 0) hu hn hlo hhi (len := 0) hh hl (Nat.le_refl _) (Nat.le_refl _)
  refine ⟨.slice none 0 0, w, .inl ?_, Step.same hS (VR.d_iff.2 rfl)⟩
  have h4 : h = 0 := by omega
  have h5 : l = 0 := by omega
  subst h4; subst h5
  exact exec_slice ho hx (by simpa using h1)

theorem does_cut_sr {t e : TypeId} {xo : Operand} {lo hi : Option Operand} (ho : o.op = .slice t xo lo hi none) {b off len sz : Nat} {cap : Option Nat} (hu : P.underlying t = some (.slice e)) (hn : sizeT P e = some sz) (hS : SimB X β N w L)
    (hx : VR (All X β L) β N w (.sr b off len sz cap) (ρ xo)) {nl nh : Option Int} (hlo : BoundIs ρ lo nl) (hhi : BoundIs ρ hi nh) {h l : Nat} (hh : (bound nh len (cap.getD len)).run = some h) (hl : (bound nl 0 h).run = some l) (hll : l < len ∨ l = 0) :
    Does P o ρ w (Step X β N w L al L (.sr b (off + l) (h - l) sz (cap.map (· - l)))) := by
  obtain ⟨hN, hs, hq⟩ := VR.sr_iff.1 hx
  rcases hq with ⟨hβ, hv, rfl, rfl, rfl⟩ | ⟨c, k, hβ, hv, hc, hk, arr, e', fz, ha, hsz⟩
  · obtain ⟨h1, h2, h3⟩ := run_slice_sl (P := P) (w := w) (a := none) (cap := 0) hu hn hlo hhi (len := 0) (top := 0) (by simpa using hh) hl (Nat.le_refl _) (Nat.le_refl _)
    have h4 : h = 0 := by omega
    have h5 : l = 0 := by omega
    subst h4; subst h5
    refine ⟨.slice none 0 0, w, .inl ?_, Step.same hS (VR.sr_iff.2 ⟨hN, hs, .inl ⟨hβ, rfl, rfl, rfl, rfl⟩⟩)⟩
    exact exec_slice ho hv (by simpa using h1)
  · have hck : cap.getD len ≤ k := by
      cases cap with
      | none => exact hc
      | some q => simp [hk q rfl]
    obtain ⟨h1, h2, h3⟩ := run_slice_sl (P := P) (w := w) (a := some ⟨c, off * sz, none⟩) (cap := k) hu hn hlo hhi hh hl (by cases cap with | none => exact hc | some q => simp [hk q rfl]) (by cases cap with | none => exact Nat.le_refl _ | some q => simp; rw [← hk q rfl]; exact hc)
    refine ⟨.slice (some ⟨c, (off + l) * sz, none⟩) (h - l) (k - l), w, .inl ?_, Step.same hS (VR.sr_iff.2 ⟨hN, hs, .inr ⟨c, k - l, hβ, rfl, by omega, ?_, arr, e', fz, ha, ?_⟩⟩)⟩
    · by_cases hkl : k = l
      · have : l = 0 := by omega
        subst this
        subst hkl
        rw [if_pos rfl] at h1
        exact exec_slice ho hv (by simpa using h1)
      · rw [if_neg hkl, Option.map_some, Addr.add_mid, ← Nat.add_mul] at h1; exact exec_slice ho hv h1
    · intro k' hk'
      cases cap with
      | none => simp at hk'
      | some q => simp at hk'; rw [hk q rfl]; exact hk'
    · refine Nat.le_trans (Nat.mul_le_mul_right _ ?_) hsz
      omega

/-- A cut of which nothing is known, but that it goes. -/
theorem does_cut_any {t e : TypeId} {xo : Operand} {lo hi : Option Operand} (ho : o.op = .slice t xo lo hi none) {b off len sz : Nat} {cap : Option Nat} (hu : P.underlying t = some (.slice e)) (hn : sizeT P e = some sz) (hS : SimB X β N w L)
    (hx : VR (All X β L) β N w (.sr b off len sz cap) (ρ xo)) {nl nh : Option Int} (hlo : BoundIs ρ lo nl) (hhi : BoundIs ρ hi nh) {h l : Nat} (hh : (bound nh len (cap.getD len)).run = some h) (hl : (bound nl 0 h).run = some l) :
    Does P o ρ w (Step X β N w L al L .top) := by
  obtain ⟨hN, hs, hq⟩ := VR.sr_iff.1 hx
  rcases hq with ⟨hβ, hv, rfl, rfl, rfl⟩ | ⟨c, k, hβ, hv, hc, hk, arr, e', fz, ha, hsz⟩
  · obtain ⟨h1, h2, h3⟩ := run_slice_sl (P := P) (w := w) (a := none) (cap := 0) hu hn hlo hhi (len := 0) (top := 0) (by simpa using hh) hl (Nat.le_refl _) (Nat.le_refl _)
    exact ⟨_, w, .inl (exec_slice ho hv h1), Step.same hS (VR.top_iff.2 trivial)⟩
  · have hck : cap.getD len ≤ k := by
      cases cap with
      | none => exact hc
      | some q => simp [hk q rfl]
    obtain ⟨h1, h2, h3⟩ := run_slice_sl (P := P) (w := w) (a := some ⟨c, off * sz, none⟩) (cap := k) hu hn hlo hhi hh hl hck (by cases cap with | none => exact Nat.le_refl _ | some q => simp; rw [← hk q rfl]; exact hc)
    exact ⟨_, w, .inl (exec_slice ho hv h1), Step.same hS (VR.top_iff.2 trivial)⟩

/-- A struct that is built. -/
theorem fill_sound (place : Nat → Option (Nat × Nat)) : ∀ (zs : List AV) (pl : List (Nat × Nat)) (as : List AV) (cs : List AV) (zu : Array Value) (ps : List (Nat × Value)), (buildGo zs pl as).run = some cs →
    VRs (All X β L) β N w zs zu.toList → VRs (All X β L) β N w as (ps.map (·.2)) → pl.length = ps.length → (∀ (j i : Nat) (v : Value) (p : Nat × Nat), ps[j]? = some (i, v) → pl[j]? = some p → place i = some p) →
    ∃ us, Instr.fill place zu ps = some us ∧ VRs (All X β L) β N w cs us.toList
  | zs, [], as, cs, zu, ps, hr, hz, ha, hl, hp => by
    cases ps with
    | cons p ps => simp at hl
    | nil =>
      have : as = [] := by cases as with | nil => rfl | cons a as => simp [VRs] at ha
      subst this
      simp [buildGo, M.run] at hr
      subst hr
      exact ⟨zu, rfl, hz⟩
  | zs, (off, n) :: pl, as, cs, zu, ps, hr, hz, ha, hl, hp => by
    cases ps with
    | nil => simp at hl
    | cons p ps =>
      obtain ⟨i, v⟩ := p
      cases as with
      | nil => simp [VRs] at ha
      | cons a as =>
        simp only [List.map_cons] at ha
        unfold VRs at ha
        obtain ⟨ha1, ha2⟩ := ha
        simp only [buildGo] at hr
        rw [M.run_ifb] at hr
        obtain ⟨hc, hr⟩ := hr
        simp only [Bool.and_eq_true, beq_iff_eq] at hc
        obtain ⟨⟨hc1, hc2⟩, hc3⟩ := hc
        have hc2' := Nat.le_of_ble_eq_true hc2
        obtain ⟨k1, k2⟩ := cells_VR ha1 hc3
        have hsz : v.cells.size = n := by have := VRs.len _ _ k1; simp at this; omega
        have hzl : zs.length = zu.size := by simpa using VRs.len _ _ hz
        have hpl := hp 0 i v (off, n) rfl rfl
        have hfold : ∀ (xs : List Value) (k : Nat) (arr : Array Value), off + k + xs.length ≤ arr.size → (xs.zipIdx k).foldl (fun cs (c, j) => cs.setIfInBounds (off + j) c) arr = (splice arr.toList (off + k) xs).toArray := by
          intro xs
          induction xs with
          | nil => intro k arr hk; simp [splice]
          | cons x xs ih =>
            intro k arr hk
            simp only [List.zipIdx_cons, List.foldl_cons]
            rw [ih (k + 1) _ (by simp at hk ⊢; omega)]
            apply Array.ext'
            apply List.ext_getElem?
            intro q
            simp only [List.length_cons] at hk
            rw [show (splice (arr.setIfInBounds (off + k) x).toList (off + (k + 1)) xs).toArray.toList = splice (arr.toList.set (off + k) x) (off + (k + 1)) xs by simp]
            rw [show (splice arr.toList (off + k) (x :: xs)).toArray.toList = splice arr.toList (off + k) (x :: xs) by simp]
            rw [splice_get _ _ _ _ (by simp; omega), splice_get _ _ _ _ (by simp; omega)]
            simp only [List.length_cons, List.getElem?_set, Array.length_toList]
            by_cases q1 : q < off + k
            · simp [q1, show q < off + (k + 1) by omega, show off + k ≠ q by omega]
            · by_cases q2 : q = off + k
              · subst q2; simp [show off + k < off + (k + 1) by omega, show off + k < arr.size by omega]
              · by_cases q3 : q < off + (k + 1) + xs.length
                · simp [q1, show ¬ q < off + (k + 1) by omega, q3, show q < off + k + (xs.length + 1) by omega, show q - (off + k) = (q - (off + (k + 1))) + 1 by omega]
                · simp [q1, show ¬ q < off + (k + 1) by omega, q3, show ¬ q < off + k + (xs.length + 1) by omega, show off + k ≠ q by omega]
        have hf := hfold v.cells.toList 0 zu (by simp; omega)
        obtain ⟨us, g1, g2⟩ := fill_sound place (splice zs off a.cells) pl as cs (splice zu.toList off v.cells.toList).toArray ps hr (by
            refine VRs.mk _ _ ?_ ?_
            · rw [splice_length _ _ _ (by omega)]; simp [splice_length, hsz, hzl]; rw [splice_length _ _ _ (by simp; omega)]; simp
            · intro j x y hx hy
              rw [splice_get _ _ _ _ (by omega)] at hx
              rw [show (splice zu.toList off v.cells.toList).toArray.toList = splice zu.toList off v.cells.toList by simp, splice_get _ _ _ _ (by simp; omega)] at hy
              simp only [Array.length_toList, hsz] at hy
              rw [hc1] at hx
              split at hx
              · rename_i q1; rw [if_pos q1] at hy; exact VRs.get _ _ hz j x y hx hy
              · rename_i q1
                rw [if_neg q1] at hy
                split at hx
                · rename_i q2; rw [if_pos q2] at hy; exact VRs.get _ _ k1 _ x y hx hy
                · rename_i q2; rw [if_neg q2] at hy; exact VRs.get _ _ hz j x y hx hy)
          ha2 (by simpa using hl) (fun j i' v' p' h1 h2 => hp (j + 1) i' v' p' (by simpa using h1) (by simpa using h2))
        refine ⟨us, ?_, g2⟩
        unfold Instr.fill
        rw [hpl]
        simp only
        rw [if_neg (by simp [hsz]; omega)]
        have hf' : (v.cells.zipIdx.foldl (fun cs x => match x with | (c, j) => cs.setIfInBounds (off + j) c) zu) = (splice zu.toList off v.cells.toList).toArray := by
          rw [← Array.foldl_toList, Array.toList_zipIdx]
          simpa using hf
        rw [← g1]
        congr 1

theorem does_build {t : TypeId} {ps : Array (Nat × Operand)} {fs : Array Field} {zs : List AV} {pl : List (Nat × Nat)} (ho : o.op = .build t ps) (hu : P.underlying t = some (.struct fs)) (hz : zeroAVs P t = some zs) (hpl : placesS P fs ps.toList = some pl)
    (hS : SimB X β N w L) {as cs : List AV} (hx : VRs (All X β L) β N w as ((ps.toList.map (·.2)).map ρ)) (hr : (buildGo zs pl as).run = some cs) (hall : fs.all (fun f => (sizeT P f.type).isSome) = true) :
    Does P o ρ w (Step X β N w L al L (.agg cs)) := by
  obtain ⟨i, z, h1, h2, h3⟩ := zeroAVs_run hz
  obtain ⟨h4, h5⟩ := ofCells_VRs (X := All X β L) (β := β) (N := N) (w := w) _ _ h3
  have places : ∀ (fl : List Field), fl.all (fun f => (sizeT P f.type).isSome) = true → ((fl.mapM (m := Sem) fun f => do pure (f.offset, ← sizeOf f.type)) : Sem (List (Nat × Nat))).run P w = .ok (fl.map fun f => (f.offset, (sizeT P f.type).getD 0)) w := by
    intro fl
    induction fl with
    | nil => intro _; simp
    | cons f fl ih =>
      intro h
      simp only [List.all_cons, Bool.and_eq_true] at h
      obtain ⟨n, hn⟩ := Option.isSome_iff_exists.1 h.1
      obtain ⟨q, hq, hq2⟩ := sizeT_info hn
      have hsz : (sizeOf f.type).run P w = .ok n w := by simp [sizeOf, typeInfo, hq, hq2]
      simp only [List.mapM_cons, Sem.run_bind, hsz, ih h.2, Result.andThen_ok, Sem.run_pure, List.map_cons, hn, Option.getD_some]
  have hpls : ∀ (l : List (Nat × Operand)) (pl : List (Nat × Nat)), placesS P fs l = some pl → pl.length = l.length ∧ ∀ (j i : Nat) (x : Operand) (p : Nat × Nat), l[j]? = some (i, x) → pl[j]? = some p → (fs.map fun (f : Field) => (f.offset, (sizeT P f.type).getD 0))[i]? = some p := by
    intro l
    induction l with
    | nil => intro pl h; simp [placesS] at h; subst h; simp
    | cons x l ih =>
      intro pl h
      obtain ⟨i, x⟩ := x
      simp only [placesS] at h
      split at h
      · rename_i f hf
        split at h <;> simp at h
        rename_i n pl' hn hpl'
        subst h
        obtain ⟨g1, g2⟩ := ih pl' hpl'
        refine ⟨by simp [g1], fun j i' x' p h1 h2 => ?_⟩
        cases j with
        | zero => simp at h1 h2; obtain ⟨rfl, rfl⟩ := h1; subst h2; simp [hf, hn]
        | succ j => exact g2 j i' x' p (by simpa using h1) (by simpa using h2)
      · cases h
  obtain ⟨e1, e2⟩ := hpls ps.toList pl hpl
  obtain ⟨us, g1, g2⟩ := fill_sound (X := X) (β := β) (N := N) (w := w) (L := L) ((fs.map fun f => (f.offset, (sizeT P f.type).getD 0))[·]?) zs pl as cs z.cells ((ps.map fun (i, x) => (i, ρ x)).toList) hr h4
    (by have e : ((ps.map fun (i, x) => (i, ρ x)).toList).map (·.2) = (ps.toList.map (·.2)).map ρ := by rw [Array.toList_map, List.map_map, List.map_map]; rfl
        rw [e]; exact hx) (by simpa using e1) (fun j i v p hj hp => by
      simp only [Array.toList_map, List.getElem?_map, Option.map_eq_some_iff] at hj
      obtain ⟨⟨i', x'⟩, hj1, hj2⟩ := hj
      cases hj2
      exact e2 j i' x' p hj1 hp)
  refine ⟨.agg us, w, .inl ?_, Step.same hS (VR.agg_iff.2 ⟨us, rfl, g2⟩)⟩
  have hpr := places fs.toList (by simpa using hall)
  have hpr' : ((fs.mapM (m := Sem) fun f => do pure (f.offset, ← sizeOf f.type)) : Sem (Array (Nat × Nat))).run P w = .ok (fs.map fun f => (f.offset, (sizeT P f.type).getD 0)) w := by
    rw [Array.mapM_eq_mapM_toList]
    simp only [map_eq_pure_bind, Sem.run_bind, hpr, Result.andThen_ok, Sem.run_pure]
    congr 1
    apply Array.ext'
    simp
  simp only [execOp, ho, Instr.build, Sem.run_bind, zeroValue, typeInfo, run_program, h1, h2, run_underlying hu, Result.andThen_ok, Sem.run_pure, hpr', g1]

end
end Go.Ev
