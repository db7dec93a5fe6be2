/- The evaluator's operations are the model's: cuts, structs that are built, closures, least and greatest. No condition. -/
import Derived.Test.YtnmakkgomplchaaGreatDoorEvJ
namespace Go.Ev
set_option linter.unusedVariables false
set_option linter.unusedSimpArgs false
set_option linter.unusedSectionVars false
variable [Ctx]
section
variable {P : Program} {X : Blocks} {β : Map} {N : Nat → Prop} {w : World} {L : Looks} {al : Nat} {ρ : Operand → Value} {o : Oper}

theorem fold_sound (f : AV → AV → M AV) (g : Value → Value → Sem Value) (hfg : ∀ a b r u v, (f a b).run = some r → VR (All X β L) β N w a u → VR (All X β L) β N w b v → ∃ x, (g u v).run P w = .ok x w ∧ VR (All X β L) β N w r x) :
    ∀ (as : List AV) (a r : AV) (u : Value) (us : List Value), (foldM f a as).run = some r → VR (All X β L) β N w a u → VRs (All X β L) β N w as us → ∃ x, (us.foldlM g u).run P w = .ok x w ∧ VR (All X β L) β N w r x
  | [], a, r, u, us, hr, hu, hus => by
    simp [foldM, M.run] at hr
    subst hr
    have := VRs.nil hus
    subst this
    exact ⟨u, by simp, hu⟩
  | b :: as, a, r, u, us, hr, hu, hus => by
    obtain ⟨v, vs, rfl, hv, hvs⟩ := VRs.cons hus
    simp only [foldM, M.run_bind] at hr
    cases hq : (f a b).run with
    | none => rw [hq] at hr; simp at hr
    | some q =>
      rw [hq] at hr
      simp only [Option.bind_some] at hr
      obtain ⟨x, h1, h2⟩ := hfg a b q u v hq hu hv
      obtain ⟨y, h3, h4⟩ := fold_sound f g hfg as q r x vs hr h2 hvs
      exact ⟨y, by simp [List.foldlM_cons, Sem.run_bind, h1, h3], h4⟩

theorem min2_sound (a b r : AV) (u v : Value) (hr : (min2 a b).run = some r) (hu : VR (All X β L) β N w a u) (hv : VR (All X β L) β N w b v) : ∃ x, (Builtin.min2 u v).run P w = .ok x w ∧ VR (All X β L) β N w r x := by
  unfold min2 at hr
  split at hr
  · simp [M.run] at hr
    subst hr
    have e1 := VR.d_iff.1 hu
    have e2 := VR.d_iff.1 hv
    rw [VRd.int_iff.1 e1, VRd.int_iff.1 e2]
    exact ⟨_, rfl, VR.d_iff.2 rfl⟩
  · simp [M.run] at hr

theorem max2_sound (a b r : AV) (u v : Value) (hr : (max2 a b).run = some r) (hu : VR (All X β L) β N w a u) (hv : VR (All X β L) β N w b v) : ∃ x, (Builtin.max2 u v).run P w = .ok x w ∧ VR (All X β L) β N w r x := by
  unfold max2 at hr
  split at hr
  · simp [M.run] at hr
    subst hr
    have e1 := VR.d_iff.1 hu
    have e2 := VR.d_iff.1 hv
    rw [VRd.int_iff.1 e1, VRd.int_iff.1 e2]
    exact ⟨_, by simp [Builtin.max2], VR.d_iff.2 rfl⟩
  · simp [M.run] at hr

theorem does_min {c : Call} (ho : o.op = .call c) (hc : c.callee = .builtin .min) (hS : SimB X β N w L) {a r : AV} {as : List AV} (hx : VRs (All X β L) β N w (a :: as) (c.args.toList.map ρ)) (hr : (foldM min2 a as).run = some r) :
    Does P o ρ w (Step X β N w L al L r) := by
  obtain ⟨v, vs, he, hv, hvs⟩ := VRs.cons hx
  obtain ⟨x, h1, h2⟩ := fold_sound (P := P) min2 Builtin.min2 min2_sound as a r v vs hr hv hvs
  refine ⟨x, w, .inl ?_, Step.same hS h2⟩
  have : (c.args.map ρ).toList = v :: vs := by rw [Array.toList_map]; exact he
  simp [execOp, ho, resolve, hc, invoke, builtin, Builtin.min_, he, h1]

theorem does_max {c : Call} (ho : o.op = .call c) (hc : c.callee = .builtin .max) (hS : SimB X β N w L) {a r : AV} {as : List AV} (hx : VRs (All X β L) β N w (a :: as) (c.args.toList.map ρ)) (hr : (foldM max2 a as).run = some r) :
    Does P o ρ w (Step X β N w L al L r) := by
  obtain ⟨v, vs, he, hv, hvs⟩ := VRs.cons hx
  obtain ⟨x, h1, h2⟩ := fold_sound (P := P) max2 Builtin.max2 max2_sound as a r v vs hr hv hvs
  refine ⟨x, w, .inl ?_, Step.same hS h2⟩
  have : (c.args.map ρ).toList = v :: vs := by rw [Array.toList_map]; exact he
  simp [execOp, ho, resolve, hc, invoke, builtin, Builtin.max_, he, h1]

theorem does_clo {f : FuncId} {first caps : Array Operand} (ho : o.op = .makeFunc (.func f) first caps) (hf : first.isEmpty = true) (hS : SimB X β N w L) {cs : List AV} (hx : VRs (All X β L) β N w cs (caps.toList.map ρ)) :
    Does P o ρ w (Step X β N w L al L (.fn f cs)) := by
  refine ⟨.func (.func f) #[] (caps.map ρ), w, .inl ?_, Step.same hS (VR.fn_iff.2 ⟨_, rfl, by rw [Array.toList_map]; exact hx⟩)⟩
  have : first = #[] := by simpa using hf
  subst this
  simp [execOp, ho, Instr.makeFunc]

/-- A bound of a cut: an operand, and its number. -/
def BoundIs (ρ : Operand → Value) (x : Option Operand) (n : Option Int) : Prop := (x = none ∧ n = none) ∨ ∃ q k i, x = some q ∧ ρ q = .int k i ∧ n = some i

theorem optI_sound {b : Bool} {xs xs' : List AV} {n : Option Int} {x : Option Operand} {rest : List Operand} (hb : b = x.isSome) (hr : (optI b xs).run = some (n, xs')) (hx : VRs (All X β L) β N w xs ((x.toList ++ rest).map ρ)) :
    BoundIs ρ x n ∧ VRs (All X β L) β N w xs' (rest.map ρ) := by
  unfold optI at hr
  split at hr
  · simp [M.run] at hr
    obtain ⟨rfl, rfl⟩ := hr
    cases x with
    | none => exact ⟨.inl ⟨rfl, rfl⟩, hx⟩
    | some q => cases hb
  · simp [M.run] at hr
    obtain ⟨rfl, rfl⟩ := hr
    cases x with
    | none => cases hb
    | some q =>
      obtain ⟨v, vs, he, hv, hvs⟩ := VRs.cons hx
      simp at he
      obtain ⟨rfl, rfl⟩ := he
      exact ⟨.inr ⟨q, _, _, rfl, VR.d_iff.1 hv, rfl⟩, hvs⟩
  · simp [M.run] at hr

theorem bound_run {n : Option Int} {d top m : Nat} (hr : (bound n d top).run = some m) : (n = none ∧ m = d) ∨ ∃ i, n = some i ∧ 0 ≤ i ∧ i ≤ (top : Int) ∧ m = i.toNat := by
  unfold bound at hr
  split at hr
  · simp [M.run] at hr; exact .inl ⟨rfl, hr.symm⟩
  · rename_i i
    rw [M.run_chk] at hr
    simp [M.run] at hr
    exact .inr ⟨i, rfl, hr.1.1, hr.1.2, hr.2.symm⟩

theorem run_sliceBound {i : Int} {k : IntKind} {y : Nat} {code : BoundsCode} (h0 : 0 ≤ i) (h1 : i ≤ (y : Int)) : (Instr.sliceBound (.int k i) y code).run P w = .ok i.toNat w := by
  simp [Instr.sliceBound, asIntOf, h0, h1]

theorem run_sliceBounds {isSlice : Bool} {len cap : Nat} {lo hi : Option Operand} {nl nh : Option Int} (hlo : BoundIs ρ lo nl) (hhi : BoundIs ρ hi nh) {h l top : Nat} (hh : (bound nh len top).run = some h) (hl : (bound nl 0 h).run = some l) (hle : top ≤ cap) :
    (Instr.sliceBounds isSlice len cap (lo.map ρ) (hi.map ρ) none).run P w = .ok (l, h, cap) w := by
  rcases hlo with ⟨rfl, rfl⟩ | ⟨q, k, i, rfl, hq, rfl⟩ <;> rcases hhi with ⟨rfl, rfl⟩ | ⟨q', k', i', rfl, hq', rfl⟩
  all_goals
    rcases bound_run hh with ⟨e1, e2⟩ | ⟨j, e1, e2, e3, e4⟩ <;> try cases e1
    rcases bound_run hl with ⟨f1, f2⟩ | ⟨j', f1, f2, f3, f4⟩ <;> try cases f1
    subst_vars
  · simp [Instr.sliceBounds]
  · have g := run_sliceBound (P := P) (w := w) (k := k') (code := if isSlice then .sliceAcap else .sliceAlen) e2 (show i' ≤ (cap : Int) by omega)
    simp [Instr.sliceBounds, Sem.run_bind, hq', g]
  · have g := run_sliceBound (P := P) (w := w) (k := k) (code := .sliceB) f2 f3
    simp [Instr.sliceBounds, Sem.run_bind, hq, g]
  · have g := run_sliceBound (P := P) (w := w) (k := k') (code := if isSlice then .sliceAcap else .sliceAlen) e2 (show i' ≤ (cap : Int) by omega)
    have g' := run_sliceBound (P := P) (w := w) (k := k) (code := .sliceB) f2 f3
    simp [Instr.sliceBounds, Sem.run_bind, hq, hq', g, g']

theorem run_sliceAt {t : TypeId} {v : Value} {lo hi mx : Option Value} (hu : (∃ e, P.underlying t = some (.slice e)) ∨ P.underlying t = some .string) :
    (Instr.sliceAt t v lo hi mx).run P w = (Instr.slice t v lo hi mx).run P w := by
  rcases hu with ⟨e, hu⟩ | hu <;> simp [Instr.sliceAt, run_underlying hu]

theorem does_cut_str {t : TypeId} {xo : Operand} {lo hi : Option Operand} (ho : o.op = .slice t xo lo hi none) (hu : P.underlying t = some .string) (hS : SimB X β N w L) {s : List UInt8} (hx : VR (All X β L) β N w (.d (.str s)) (ρ xo))
    {nl nh : Option Int} (hlo : BoundIs ρ lo nl) (hhi : BoundIs ρ hi nh) {h l : Nat} (hh : (bound nh s.length s.length).run = some h) (hl : (bound nl 0 h).run = some l) :
    Does P o ρ w (Step X β N w L al L (.d (.str ((s.take h).drop l)))) := by
  obtain ⟨b, hb, rfl⟩ := VR.d_iff.1 hx
  refine ⟨.string (b.extract l h), w, .inl ?_, Step.same hS (VR.d_iff.2 ⟨_, rfl, ?_⟩)⟩
  · have hbs := run_sliceBounds (P := P) (w := w) (isSlice := false) (cap := b.size) hlo hhi (len := b.size) (top := b.size) (h := h) (l := l) (by simpa using hh) hl (Nat.le_refl _)
    have := run_sliceAt (P := P) (w := w) (t := t) (v := ρ xo) (lo := lo.map ρ) (hi := hi.map ρ) (mx := none) (.inr hu)
    rw [hb] at this
    simp [execOp, ho, hb, Sem.run_bind, this, Instr.slice, run_underlying hu, hbs]
  · simp [ByteArray.data_extract, List.extract_eq_take_drop, List.drop_take]

end
end Go.Ev
