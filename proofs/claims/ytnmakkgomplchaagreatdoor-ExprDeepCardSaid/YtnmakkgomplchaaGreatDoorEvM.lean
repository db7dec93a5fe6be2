/- The evaluator's operations are the model's: rows that are closed, rows that are read. No condition. -/
import Derived.Test.YtnmakkgomplchaaGreatDoorEvL
namespace Go.Ev
set_option linter.unusedVariables false
set_option linter.unusedSimpArgs false
set_option linter.unusedSectionVars false
variable [Ctx]
section
variable {P : Program} {X : Blocks} {β : Map} {N : Nat → Prop} {w : World} {L : Looks} {al : Nat} {ρ : Operand → Value} {o : Oper}

/-- The same boxes, but that some rows are closed. -/
def Cl (L L1 : Looks) : Prop := ∀ b, L1 b = L b ∨ ∃ (t : Ty) (l : List t.den) (q : Bool), L b = .arr t l q ∧ L1 b = .arr t l false

theorem Cl.refl (L : Looks) : Cl L L := fun _ => .inl rfl

/-- What a row's slice reads as, the row being closed. -/
theorem sr_RD {b off len : Nat} {cap : Option Nat} {t : Ty} {l : List t.den} {v : Value} (hS : SimB X β N w L) (hL : L b = .arr t l false) (hv : srOK β N w b off len t.size cap v) (hle : off + len ≤ l.length) :
    RD (All X β L) w (.sl t) ((l.drop off).take len) (fun _ => some v) := by
  obtain ⟨hN, hs, h⟩ := hv
  have hlen : ((l.drop off).take len).length = len := by simp; omega
  have hb := hS.box b
  rw [hL] at hb
  obtain ⟨h0, hb⟩ := hb
  rcases h with ⟨hβ, rfl, rfl, rfl, _⟩ | ⟨c, k, hβ, rfl, hk, _, arr, e, ha, hsz⟩
  · have : (List.take 0 (List.drop 0 l)) = ([] : List t.den) := by simp
    rw [this]
    exact RD.nil rfl
  · rcases hb with ⟨g1, _⟩ | ⟨c', arr', e', g1, g2, g3, g4, g5⟩
    · rw [hβ] at g1; cases g1
    · rw [hβ] at g1; cases g1
      refine RD.sl c (off * t.size) k (by rw [hlen]) (by rw [hlen]; exact hk) (heap_lt g2) (g4.1 rfl) fun i hi => ?_
      rw [hlen] at hi
      have hlt : off + i < l.length := by omega
      have he : ((l.drop off).take len)[i]'(by rw [hlen]; exact hi) = l[off + i] := by simp
      rw [he]
      refine (g5 (off + i) hlt).congr fun j hj => ?_
      rw [cell_of_arr g2, Nat.add_mul]

theorem toD_sound {B : Boxes} {L1 : Looks} (hS : SimB X β N w L1) (hcl : Cl (look B) L1) {a : AV} {x : D} {ws : List (Nat × Box)} (hr : (toD B a).run = some (x, ws)) {v : Value} (hv : VR (All X β L1) β N w a v) :
    SimB X β N w (updsL L1 ws) ∧ Fr (Own β L1) w (Own β (updsL L1 ws)) w ∧ VRd (All X β (updsL L1 ws)) w x v ∧ Cl (look B) (updsL L1 ws) := by
  unfold toD at hr
  split at hr
  · simp [M.run] at hr
    obtain ⟨rfl, rfl⟩ := hr
    exact ⟨hS, Fr.refl _ _, VR.d_iff.1 hv, hcl⟩
  · rename_i b off len sz cap
    split at hr
    · rename_i t l q hl
      rw [M.run_ifb] at hr
      obtain ⟨hsz, hr⟩ := hr
      rw [M.run_chk] at hr
      obtain ⟨hle, hr⟩ := hr
      simp [M.run] at hr
      obtain ⟨rfl, rfl⟩ := hr
      simp only [beq_iff_eq] at hsz
      subst hsz
      obtain ⟨q', hq'⟩ : ∃ q', L1 b = .arr t l q' := by
        rcases hcl b with h | ⟨t', l', q', h1, h2⟩
        · exact ⟨q, h.trans hl⟩
        · rw [hl] at h1; cases h1; exact ⟨false, h2⟩
      obtain ⟨s1, s2⟩ := Step.shut (al := 0) hS hq'
      refine ⟨s1, s2, ?_, ?_⟩
      · show VRd (All X β (updL L1 b (.arr t l false))) w _ v
        exact sr_RD s1 (if_pos rfl) (VR.sr_iff.1 hv) (by simpa using hle)
      · intro b'
        show updL L1 b (.arr t l false) b' = _ ∨ _
        by_cases e : b' = b
        · subst e
          exact .inr ⟨t, l, q, hl, if_pos rfl⟩
        · show (if b' = b then _ else L1 b') = _ ∨ _
          rw [if_neg e]
          rcases hcl b' with h | ⟨t', l', q2, h1, h2⟩
          · exact .inl h
          · refine .inr ⟨t', l', q2, h1, ?_⟩
            show (if b' = b then _ else L1 b') = _
            rw [if_neg e]; exact h2
    · simp [M.run] at hr
  · simp [M.run] at hr

theorem updsL_append (L : Looks) (a b : List (Nat × Box)) : updsL L (a ++ b) = updsL (updsL L a) b := by
  unfold updsL; rw [List.foldl_append]

theorem mv_cl {L1 L2 : Looks} (h : Fr (Own β L1) w (Own β L2) w) : Mv (All X β L1) β N w (All X β L2) β N w := mv_of h fun b hb => ⟨hb, rfl⟩

theorem VRds_iff {Y : Blocks} (ds : List D) (us : List Value) : (VRs Y β N w (ds.map AV.d) us) ↔ (ds.length = us.length ∧ ∀ (j : Nat) (d : D) (u : Value), ds[j]? = some d → us[j]? = some u → VRd Y w d u) := by
  constructor
  · intro h
    have hl := VRs.len _ _ h
    refine ⟨by simpa using hl, fun j d u hd hu => VR.d_iff.1 (VRs.get _ _ h j (.d d) u (by simp [hd]) hu)⟩
  · rintro ⟨h1, h2⟩
    refine VRs.mk _ _ (by simpa using h1) fun j a u ha hu => ?_
    simp only [List.getElem?_map, Option.map_eq_some_iff] at ha
    obtain ⟨d, hd, rfl⟩ := ha
    exact VR.d_iff.2 (h2 j d u hd hu)

theorem toDs_sound {B : Boxes} : ∀ (as : List AV) (xs : List D) (ws : List (Nat × Box)) (us : List Value) (L1 : Looks), SimB X β N w L1 → Cl (look B) L1 → (toDs B as).run = some (xs, ws) → VRs (All X β L1) β N w as us →
    SimB X β N w (updsL L1 ws) ∧ Fr (Own β L1) w (Own β (updsL L1 ws)) w ∧ VRs (All X β (updsL L1 ws)) β N w (xs.map AV.d) us ∧ Cl (look B) (updsL L1 ws)
  | [], xs, ws, us, L1, hS, hcl, hr, hv => by
    simp [toDs, M.run] at hr
    obtain ⟨rfl, rfl⟩ := hr
    have := VRs.nil hv
    subst this
    exact ⟨hS, Fr.refl _ _, by unfold VRs; trivial, hcl⟩
  | a :: as, xs, ws, us, L1, hS, hcl, hr, hv => by
    obtain ⟨u, us, rfl, hu, hus⟩ := VRs.cons hv
    simp only [toDs, M.run_bind] at hr
    cases h1 : (toD B a).run with
    | none => rw [h1] at hr; simp at hr
    | some p =>
      obtain ⟨x, w1⟩ := p
      rw [h1] at hr
      simp only [Option.bind_some, M.run_bind] at hr
      cases h2 : (toDs B as).run with
      | none => rw [h2] at hr; simp at hr
      | some p =>
        obtain ⟨xs', w2⟩ := p
        rw [h2] at hr
        simp [M.run] at hr
        obtain ⟨rfl, rfl⟩ := hr
        obtain ⟨a1, a2, a3, a4⟩ := toD_sound hS hcl h1 hu
        have mv := mv_cl (X := X) (N := N) a2
        obtain ⟨b1, b2, b3, b4⟩ := toDs_sound as xs' w2 us (updsL L1 w1) a1 a4 h2 (VRs.move mv _ _ hus)
        rw [updsL_append]
        refine ⟨b1, a2.trans b2, ?_, b4⟩
        simp only [List.map_cons]
        unfold VRs
        exact ⟨VR.d_iff.2 (a3.move (mv_cl (X := X) (N := N) b2).size (mv_cl (X := X) (N := N) b2).keep), b3⟩

theorem divmod_lt {q n sz : Nat} (h : q < n * sz) : q / sz < n ∧ q / sz * sz + q % sz = q ∧ 0 < sz := by
  have h0 : 0 < sz := by
    rcases Nat.eq_zero_or_pos sz with e | e
    · subst e; omega
    · exact e
  exact ⟨(Nat.div_lt_iff_lt_mul h0).2 h, by rw [Nat.mul_comm]; exact Nat.div_add_mod q sz, h0⟩

/-- The cells of a row of elements, one by one. -/
theorem rowCells {Y : Blocks} {t : Ty} {ys : List t.den} {G : Nat → Option Value} (h : ∀ i (hi : i < ys.length), RD Y w t ys[i] (fun j => G (i * t.size + j))) :
    ∃ us : List Value, us.length = ys.length * t.size ∧ (∀ q, q < ys.length * t.size → us[q]? = G q ∧ (G q).isSome = true) ∧ (∀ u ∈ us, u.oneCell' = true) ∧ (∀ i (hi : i < ys.length), RD Y w t ys[i] (fun j => us[i * t.size + j]?)) := by
  have some_ : ∀ q, q < ys.length * t.size → ∃ v, G q = some v ∧ v.oneCell' = true := by
    intro q hq
    obtain ⟨h1, h2, h3⟩ := divmod_lt hq
    have hlt : q % t.size < (encC t ys[q / t.size]).length := by rw [encC_length]; exact Nat.mod_lt _ h3
    obtain ⟨v, hv, hr⟩ := RD.cells (h (q / t.size) h1) (q % t.size) _ (List.getElem?_eq_getElem hlt)
    rw [h2] at hv
    exact ⟨v, hv, hr.oneCell⟩
  have get : ∀ q, q < ys.length * t.size → ((List.range (ys.length * t.size)).map fun q => (G q).getD undef)[q]? = G q ∧ (G q).isSome = true := by
    intro q hq
    obtain ⟨v, hv, _⟩ := some_ q hq
    simp [List.getElem?_range hq, hv]
  refine ⟨(List.range (ys.length * t.size)).map fun q => (G q).getD undef, by simp, get, ?_, fun i hi => ?_⟩
  · intro u hu
    obtain ⟨q, hq, rfl⟩ := List.mem_map.1 hu
    obtain ⟨v, hv, h1⟩ := some_ q (List.mem_range.1 hq)
    rw [hv]; exact h1
  · refine (h i hi).congr fun j hj => ?_
    have : i * t.size + j < ys.length * t.size := by
      have : (i + 1) * t.size ≤ ys.length * t.size := Nat.mul_le_mul_right _ hi
      rw [Nat.add_mul] at this; omega
    exact (get _ this).1

theorem firstCells_of {sz n c off len cap m : Nat} {us : List Value} {w1 : World} (h : ∀ q, q < n * sz → us[q]? = w1.cell? ⟨c, off + q, none⟩ ∧ (w1.cell? ⟨c, off + q, none⟩).isSome = true) (hl : us.length = n * sz) (hm : m ≤ n) :
    (Builtin.firstCells sz m (.slice (some ⟨c, off, none⟩) len cap)).run P w1 = .ok (us.take (m * sz)).toArray w1 := by
  have hle : m * sz ≤ n * sz := Nat.mul_le_mul_right _ hm
  refine run_firstCells_some (P := P) w1 sz m ⟨c, off, none⟩ len cap (us.take (m * sz)) (by simp; omega) fun j v hv => ?_
  rw [Addr.add_mid]
  rw [List.getElem?_take] at hv
  split at hv
  · rename_i hj
    rw [← (h j (by omega)).1]; exact hv
  · cases hv

/-- What a slice holds: the cells of its elements. -/
theorem content_sound {B : Boxes} {t : Ty} (hS : SimB X β N w (look B)) {a : AV} {ys : List t.den} {rs : List Nat} (hr : (content B t a).run = some (ys, rs)) {v : Value} (hv : VR (All X β (look B)) β N w a v) (ht : 0 < t.size) :
    ∃ us : List Value, us.length = ys.length * t.size ∧ (∀ w1, (Builtin.lenOf v).run P w1 = .ok ys.length w1) ∧
      (∀ m w1, m ≤ ys.length → w1.heap = w.heap → (Builtin.firstCells t.size m v).run P w1 = .ok (us.take (m * t.size)).toArray w1) ∧
      (∀ i (hi : i < ys.length), RD (All X β (look B)) w t ys[i] (fun j => us[i * t.size + j]?)) ∧ (∀ u ∈ us, u.oneCell' = true) := by
  have nil : ∀ (q : Option Addr) (qc : Nat), v = .slice q 0 qc → ys = [] → ∃ us : List Value, us.length = ys.length * t.size ∧ (∀ w1, (Builtin.lenOf v).run P w1 = .ok ys.length w1) ∧
      (∀ m w1, m ≤ ys.length → w1.heap = w.heap → (Builtin.firstCells t.size m v).run P w1 = .ok (us.take (m * t.size)).toArray w1) ∧
      (∀ i (hi : i < ys.length), RD (All X β (look B)) w t ys[i] (fun j => us[i * t.size + j]?)) ∧ (∀ u ∈ us, u.oneCell' = true) := by
    rintro q qc rfl rfl
    refine ⟨[], by simp, fun w1 => by simp [Builtin.lenOf], fun m w1 hm _ => ?_, fun i hi => by simp at hi, by simp⟩
    obtain rfl : m = 0 := by simpa using hm
    cases q with
    | none => simp [Builtin.firstCells]
    | some b => simpa using run_firstCells_some (P := P) w1 t.size 0 b 0 qc [] (by simp) (fun j v hv => by simp at hv)
  have row : ∀ (c off cap : Nat), v = .slice (some ⟨c, off, none⟩) ys.length cap → (∀ i (hi : i < ys.length), RD (All X β (look B)) w t ys[i] (fun j => w.cell? ⟨c, off + (i * t.size + j), none⟩)) →
      ∃ us : List Value, us.length = ys.length * t.size ∧ (∀ w1, (Builtin.lenOf v).run P w1 = .ok ys.length w1) ∧
      (∀ m w1, m ≤ ys.length → w1.heap = w.heap → (Builtin.firstCells t.size m v).run P w1 = .ok (us.take (m * t.size)).toArray w1) ∧
      (∀ i (hi : i < ys.length), RD (All X β (look B)) w t ys[i] (fun j => us[i * t.size + j]?)) ∧ (∀ u ∈ us, u.oneCell' = true) := by
    rintro c off cap rfl h
    obtain ⟨us, h1, h2, h3, h4⟩ := rowCells (G := fun q => w.cell? ⟨c, off + q, none⟩) h
    refine ⟨us, h1, fun w1 => by simp [Builtin.lenOf], fun m w1 hm hw => firstCells_of (n := ys.length) (fun q hq => ?_) h1 hm, h4, h3⟩
    have : w1.cell? ⟨c, off + q, none⟩ = w.cell? ⟨c, off + q, none⟩ := by simp [World.cell?, hw]
    rw [this]; exact h2 q hq
  unfold content at hr
  split at hr
  · simp [M.run] at hr
    obtain ⟨rfl, rfl⟩ := hr
    exact nil _ _ (VR.d_iff.1 hv) rfl
  · rename_i t' l
    split at hr
    · rename_i e
      subst e
      simp [M.run] at hr
      obtain ⟨rfl, rfl⟩ := hr
      have hq : RD (All X β (look B)) w (.sl t') l (fun _ => some v) := VR.d_iff.1 hv
      obtain ⟨v', e, h⟩ := RD.slice hq
      cases e
      rcases h with ⟨q, qc, h1, _, h2⟩ | ⟨c, off, cap, h1, h2, h3, h4, h5⟩
      · exact nil q qc h1 h2
      · exact row c off cap h1 fun i hi => (h5 i hi).congr fun j hj => by rw [Nat.add_assoc]
    · simp [M.run] at hr
  · rename_i s
    split at hr
    · rename_i e
      subst e
      simp [M.run] at hr
      obtain ⟨rfl, rfl⟩ := hr
      obtain ⟨b, rfl, rfl⟩ := VR.d_iff.1 hv
      refine ⟨b.data.toList.map fun c => .int .u8 (c.toNat : Nat), by simp [Ty.size], fun w1 => by simp [Builtin.lenOf], fun m w1 hm _ => ?_, fun i hi => ?_, ?_⟩
      · simp only [List.length_map, Array.length_toList] at hm
        simp only [Builtin.firstCells, Ty.size, Nat.mul_one, Sem.run_pure]
        congr 1
        apply Array.ext'
        simp [ByteArray.data_extract, List.extract_eq_take_drop, List.map_take]
      · simp only [List.length_map, Array.length_toList] at hi
        refine RD.int ?_
        simp [Ty.size]
        simp at hi
        simp [hi]
      · intro u hu
        obtain ⟨c, _, rfl⟩ := List.mem_map.1 hu
        rfl
    · simp [M.run] at hr
  · rename_i b off len sz cap
    split at hr
    · rename_i t' l q hl
      split at hr
      · rename_i e
        subst e
        rw [M.run_ifb] at hr
        obtain ⟨hsz, hr⟩ := hr
        rw [M.run_chk] at hr
        obtain ⟨hle, hr⟩ := hr
        simp [M.run] at hr
        obtain ⟨rfl, rfl⟩ := hr
        simp only [beq_iff_eq] at hsz
        subst hsz
        have hle' : off + len ≤ l.length := by simpa using hle
        have hlen : ((l.drop off).take len).length = len := by simp; omega
        obtain ⟨hN, hs, h⟩ := VR.sr_iff.1 hv
        have hb := hS.box b
        rw [hl] at hb
        obtain ⟨h0, hb⟩ := hb
        rcases h with ⟨hβ, h1, h2, h3, _⟩ | ⟨c, k, hβ, h1, hk, _, arr, e, ha, hsz⟩
        · exact nil _ _ h1 (by rw [h3]; simp)
        · rcases hb with ⟨g1, _⟩ | ⟨c', arr', e', g1, g2, g3, g4, g5⟩
          · rw [hβ] at g1; cases g1
          · rw [hβ] at g1; cases g1
            refine row c (off * t'.size) k (by rw [hlen]; exact h1) fun i hi => ?_
            have hi' : i < len := by rw [hlen] at hi; exact hi
            have hlt : off + i < l.length := by omega
            have he : ((l.drop off).take len)[i] = l[off + i] := by simp
            rw [he]
            refine (g5 (off + i) hlt).congr fun j hj => ?_
            rw [cell_of_arr g2, Nat.add_mul, Nat.add_assoc]
      · simp [M.run] at hr
    · simp [M.run] at hr
  · simp [M.run] at hr


/-- What a slice holds, as far as it is known. -/
theorem headOf_sound {B : Boxes} {t : Ty} (hS : SimB X β N w (look B)) {a : AV} {m : Nat} {ys : List t.den} {rs : List Nat} (hr : (headOf B t a).run = some (m, ys, rs)) {v : Value} (hv : VR (All X β (look B)) β N w a v) (ht : 0 < t.size) :
    ∃ us : List Value, us.length = ys.length * t.size ∧ (∀ w1, (Builtin.lenOf v).run P w1 = .ok m w1) ∧
      (∀ q w1, q ≤ ys.length → w1.heap = w.heap → (Builtin.firstCells t.size q v).run P w1 = .ok (us.take (q * t.size)).toArray w1) ∧
      (∀ i (hi : i < ys.length), RD (All X β (look B)) w t ys[i] (fun j => us[i * t.size + j]?)) ∧ (∀ u ∈ us, u.oneCell' = true) := by
  have plain : ((content B t a).bind fun (ys, rs) => M.ret (ys.length, ys, rs)).run = some (m, ys, rs) → ∃ us : List Value, us.length = ys.length * t.size ∧ (∀ w1, (Builtin.lenOf v).run P w1 = .ok m w1) ∧
      (∀ q w1, q ≤ ys.length → w1.heap = w.heap → (Builtin.firstCells t.size q v).run P w1 = .ok (us.take (q * t.size)).toArray w1) ∧
      (∀ i (hi : i < ys.length), RD (All X β (look B)) w t ys[i] (fun j => us[i * t.size + j]?)) ∧ (∀ u ∈ us, u.oneCell' = true) := by
    intro h
    rw [M.run_bind, Option.bind_eq_some_iff] at h
    obtain ⟨⟨ys', rs'⟩, h1, h2⟩ := h
    simp only [M.run, Option.some.injEq, Prod.mk.injEq] at h2
    obtain ⟨rfl, rfl, rfl⟩ := h2
    exact content_sound (P := P) hS h1 hv ht
  unfold headOf at hr
  split at hr
  · rename_i b off len sz cap
    split at hr
    · rename_i t' l q hl
      rw [M.run_bind, Option.bind_eq_some_iff] at hr
      obtain ⟨⟨ys', rs'⟩, h1, h2⟩ := hr
      simp only [M.run, Option.some.injEq, Prod.mk.injEq] at h2
      obtain ⟨rfl, rfl, rfl⟩ := h2
      obtain ⟨hN, hs, h⟩ := VR.sr_iff.1 hv
      rcases h with ⟨hβ, rfl, rfl, rfl, rfl⟩ | ⟨c, k, hβ, rfl, hk, hkk, arr, e, fz, ha, hsz⟩
      · obtain ⟨us, g1, g2, g3, g4, g5⟩ := content_sound (P := P) (v := .slice none 0 0) hS h1 (VR.sr_iff.2 ⟨hN, hs, .inl ⟨hβ, rfl, rfl, by simp, rfl⟩⟩) ht
        exact ⟨us, g1, fun w1 => by simp [Builtin.lenOf], g3, g4, g5⟩
      · obtain ⟨us, g1, g2, g3, g4, g5⟩ := content_sound (P := P) (v := .slice (some ⟨c, off * sz, none⟩) (min len (l.length - off)) k) hS h1 (VR.sr_iff.2 ⟨hN, hs, .inr ⟨c, k, hβ, rfl, by omega, hkk, arr, e, fz, ha, hsz⟩⟩) ht
        exact ⟨us, g1, fun w1 => by simp [Builtin.lenOf], fun q w1 hq hw => g3 q w1 hq hw, g4, g5⟩
    · simp [M.run] at hr
  · exact plain hr

end
end Go.Ev
