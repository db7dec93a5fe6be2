/- The evaluator's operations are the model's: structs, cuts. No condition. -/
import Derived.Test.YtnmakkgomplchaaGreatDoorEvI
namespace Go.Ev
set_option linter.unusedVariables false
set_option linter.unusedSimpArgs false
set_option linter.unusedSectionVars false
variable [Ctx]
section
variable {P : Program} {X : Blocks} {β : Map} {N : Nat → Prop} {w : World} {L : Looks} {al : Nat} {ρ : Operand → Value} {o : Oper}

theorem aggT_basic {t : TypeId} (h : (∃ k, P.underlying t = some (.int k)) ∨ P.underlying t = some .bool ∨ P.underlying t = some .string) : (isAgg t).run P w = .ok false w := by
  unfold isAgg
  rcases h with ⟨k, h⟩ | h | h <;> rw [Sem.run_bind, run_underlying h w] <;> rfl

theorem eqFields_run (d : Nat) : ∀ (fs : List Field) (off : Nat) (ks : List Nat) (xs ys : List AV) (r : Bool) (us vs : Array Value), eqKinds P off fs = some ks → (eqCells ks xs ys).run = some r →
    (∀ j a, xs[j]? = some a → ∃ u, us[off + j]? = some u ∧ VR X β N w a u) → (∀ j a, ys[j]? = some a → ∃ u, vs[off + j]? = some u ∧ VR X β N w a u) →
    (Op.eqFields (d + 1) us vs fs).run P w = .ok r w
  | [], off, ks, xs, ys, r, us, vs, h, hr, hx, hy => by
    simp [eqKinds] at h
    subst h
    unfold eqCells at hr
    split at hr <;> simp_all [M.run]
    simp [Op.eqFields]
  | f :: fs, off, ks, xs, ys, r, us, vs, h, hr, hx, hy => by
    unfold eqKinds at h
    split at h
    · rename_i hf
      obtain ⟨hf1, hf2⟩ := hf
      have core : ∀ (k : Nat) (ks' : List Nat), eqKinds P (off + 1) fs = some ks' → ks = k :: ks' → ((k = 0 ∧ ∃ q, P.underlying f.type = some (.int q)) ∨ (k = 1 ∧ P.underlying f.type = some .bool) ∨ (k = 2 ∧ P.underlying f.type = some .string)) →
          (Op.eqFields (d + 1) us vs (f :: fs)).run P w = .ok r w := by
        intro k ks' hks hk hty
        subst hk
        cases xs with
        | nil => simp [eqCells, M.run] at hr
        | cons a as =>
          cases ys with
          | nil => simp [eqCells, M.run] at hr
          | cons b bs =>
            simp only [eqCells] at hr
            split at hr
            · rename_i e he
              rw [M.run_bind] at hr
              cases hq : (eqCells ks' as bs).run with
              | none => rw [hq] at hr; simp at hr
              | some r' =>
                rw [hq] at hr
                simp [M.run] at hr
                subst hr
                obtain ⟨u, hu1, hu2⟩ := hx 0 a rfl
                obtain ⟨v, hv1, hv2⟩ := hy 0 b rfl
                simp only [Nat.add_zero] at hu1 hv1
                have ih := eqFields_run d fs (off + 1) ks' as bs r' us vs hks hq
                  (fun j a' ha => by have := hx (j + 1) a' (by simpa using ha); rwa [show off + (j + 1) = off + 1 + j by omega] at this)
                  (fun j a' ha => by have := hy (j + 1) a' (by simpa using ha); rwa [show off + (j + 1) = off + 1 + j by omega] at this)
                have hb : (∃ k, P.underlying f.type = some (.int k)) ∨ P.underlying f.type = some .bool ∨ P.underlying f.type = some .string := by
                  rcases hty with ⟨_, h⟩ | ⟨_, h⟩ | ⟨_, h⟩
                  · exact .inl h
                  · exact .inr (.inl h)
                  · exact .inr (.inr h)
                have hp1 : (part f.type us f.offset).run P w = .ok u w := by
                  unfold part; rw [Sem.run_bind, aggT_basic hb]; simp [hf2, hu1]
                have hp2 : (part f.type vs f.offset).run P w = .ok v w := by
                  unfold part; rw [Sem.run_bind, aggT_basic hb]; simp [hf2, hv1]
                have hE : (Op.equalIn (d + 1) f.type u v).run P w = .ok e w := by
                  rcases hty with ⟨rfl, q, ht⟩ | ⟨rfl, ht⟩ | ⟨rfl, ht⟩
                  · unfold eqD at he
                    split at he <;> simp at he
                    all_goals try (exfalso; simp_all; done)
                    obtain ⟨rfl, rfl⟩ := he
                    have e1 : u = .int _ _ := VR.d_iff.1 hu2
                    have e2 : v = .int _ _ := VR.d_iff.1 hv2
                    subst e1; subst e2
                    exact run_equalIn_int w d _ _ _ _ _ ht
                  · unfold eqD at he
                    split at he <;> simp at he
                    all_goals try (exfalso; simp_all; done)
                    subst he
                    have e1 : u = .bool _ := VR.d_iff.1 hu2
                    have e2 : v = .bool _ := VR.d_iff.1 hv2
                    subst e1; subst e2
                    exact run_equalIn_bool w d _ _ _ ht
                  · unfold eqD at he
                    split at he <;> simp at he
                    all_goals try (exfalso; simp_all; done)
                    subst he
                    obtain ⟨s1, rfl, rfl⟩ := VR.d_iff.1 hu2
                    obtain ⟨s2, rfl, rfl⟩ := VR.d_iff.1 hv2
                    rw [run_equalIn_string w d _ _ _ ht, ba_toList, ba_toList]
                simp only [Op.eqFields]
                rw [if_pos hf1]
                simp only [Sem.run_bind, hp1, hp2, hE, Result.andThen_ok]
                cases e with
                | true => simp [ih]
                | false => simp
            · simp [M.run] at hr
      split at h <;> simp at h
      · rename_i ks' hu hks; exact core 0 ks' hks h.symm (.inl ⟨rfl, _, hu⟩)
      · rename_i ks' hu hks; exact core 1 ks' hks h.symm (.inr (.inl ⟨rfl, hu⟩))
      · rename_i ks' hu hks; exact core 2 ks' hks h.symm (.inr (.inr ⟨rfl, hu⟩))
    · cases h

theorem does_eqs {op : BinOp} {ng : Bool} {t yt : TypeId} {xo yo : Operand} {fs : Array Field} {ks : List Nat} (ho : o.op = .binOp op t xo yo yt) (hop : isNeg op = some ng) (ht : P.underlying t = some (.struct fs)) (hks : eqKinds P 0 fs.toList = some ks)
    (hp : P.stoodInHeld t = false) (hgt : P.eqGuardType P.depth t = false) (hS : SimB X β N w L) {xs ys : List AV} (hx : VR (All X β L) β N w (.agg xs) (ρ xo)) (hy : VR (All X β L) β N w (.agg ys) (ρ yo)) {r : Bool} (hr : (eqCells ks xs ys).run = some r) :
    Does P o ρ w (Step X β N w L al L (.d (.bool (cond ng (!r) r)))) := by
  obtain ⟨us, hu, hu2⟩ := VR.agg_iff.1 hx
  obtain ⟨vs, hv, hv2⟩ := VR.agg_iff.1 hy
  have get : ∀ (xs : List AV) (us : Array Value), VRs (All X β L) β N w xs us.toList → ∀ j a, xs[j]? = some a → ∃ u, us[0 + j]? = some u ∧ VR (All X β L) β N w a u := by
    intro xs us h j a ha
    have hl := VRs.len _ _ h
    have hj : j < us.size := by have := (List.getElem?_eq_some_iff.1 ha).1; simp at hl; omega
    have hg : us[j]? = some us[j] := Array.getElem?_eq_getElem hj
    exact ⟨us[j], by rw [Nat.zero_add]; exact hg, VRs.get _ _ h j a _ ha (by simp)⟩
  have he := eqFields_run (P := P) 9998 fs.toList 0 ks xs ys r us vs hks hr (get xs us hu2) (get ys vs hv2)
  have hf : P.fieldsOf t = fs := by simp [Program.fieldsOf, ht]
  have hE : (Op.equalIn 10000 t (.agg us) (.agg vs)).run P w = .ok r w := by
    rw [run_equalIn_struct w 9999 t us vs (by rw [hf]; exact ht) hp, hf]
    exact he
  refine does_eq ho hop hS (by rw [hu, hv]; exact run_eqGuard_agg w op t xo yo us vs hgt) ?_
  rw [hu, hv]
  cases op <;> simp [isNeg] at hop <;> subst hop
  · rw [run_eql_struct, hE]; rfl
  · rw [run_neq_struct, hE]; rfl

theorem take_drop_VRs {Y : Blocks} (cs : List AV) (us : Array Value) (h : VRs Y β N w cs us.toList) (off n : Nat) : VRs Y β N w ((cs.drop off).take n) (us.extract off (off + n)).toList := by
  have hl := VRs.len _ _ h
  refine VRs.mk _ _ ?_ ?_
  · simp at hl ⊢; omega
  · intro j a v ha hv
    rw [List.getElem?_take] at ha
    split at ha
    · rename_i hj
      rw [List.getElem?_drop] at ha
      have hv' : us.toList[off + j]? = some v := by
        simp only [Array.toList_extract, List.extract_eq_take_drop] at hv
        rw [List.getElem?_take] at hv
        split at hv
        · rw [List.getElem?_drop] at hv; exact hv
        · cases hv
      exact VRs.get _ _ h _ a v ha hv'
    · cases ha

theorem does_get {t : TypeId} {xo : Operand} {f : Nat} {fs : Array Field} {fd : Field} {n : Nat} (ho : o.op = .field t xo f) (ht : P.underlying t = some (.struct fs)) (hf : fs[f]? = some fd) (hn : sizeT P fd.type = some n)
    (hu : (P.underlying fd.type).isSome = true) (hS : SimB X β N w L) {cs : List AV} (hx : VR (All X β L) β N w (.agg cs) (ρ xo)) (hle : fd.offset + n ≤ cs.length) {val : AV}
    (hval : (aggT P fd.type = true ∧ val = .agg ((cs.drop fd.offset).take n)) ∨ (aggT P fd.type = false ∧ (cs.drop fd.offset).take n = [val])) :
    Does P o ρ w (Step X β N w L al L val) := by
  obtain ⟨us, hus, hv⟩ := VR.agg_iff.1 hx
  obtain ⟨i, hi, rfl⟩ := sizeT_info hn
  have hl := VRs.len _ _ hv
  have hvs := take_drop_VRs cs us hv fd.offset i.size
  rcases hval with ⟨ha, rfl⟩ | ⟨ha, he⟩
  · refine ⟨.agg (us.extract fd.offset (fd.offset + i.size)), w, .inl ?_, Step.same hS (VR.agg_iff.2 ⟨_, rfl, hvs⟩)⟩
    have := run_isAgg (P := P) (w := w) hu
    rw [ha] at this
    simp [execOp, ho, Instr.field, run_underlying ht, hf, hus, asAgg, part, Sem.run_bind, this, sizeOf, typeInfo, hi]
  · rw [he] at hvs
    obtain ⟨v, hv1, hv2⟩ := VRs.one hvs
    have hg : us[fd.offset]? = some v := by
      have := congrArg (·[0]?) hv1
      simp only [Array.toList_extract, List.extract_eq_take_drop] at this
      rw [List.getElem?_take] at this
      split at this
      · rw [List.getElem?_drop] at this; simpa using this
      · simp at this
    refine ⟨v, w, .inl ?_, Step.same hS hv2⟩
    have := run_isAgg (P := P) (w := w) hu
    rw [ha] at this
    simp [execOp, ho, Instr.field, run_underlying ht, hf, hus, asAgg, part, Sem.run_bind, this, hg]

end
end Go.Ev
