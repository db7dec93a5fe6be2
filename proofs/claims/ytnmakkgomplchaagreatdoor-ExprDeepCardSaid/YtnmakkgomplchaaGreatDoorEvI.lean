/- The evaluator's operations are the model's: comparisons, structs, cuts. No condition. -/
import Derived.Test.YtnmakkgomplchaaGreatDoorEvH
import Derived.Laws.StructEq
import Derived.Laws.Cover3
import Derived.Laws.Pointers
namespace Go.Ev
set_option linter.unusedVariables false
set_option linter.unusedSimpArgs false
set_option linter.unusedSectionVars false
variable [Ctx]
section
variable {P : Program} {X : Blocks} {β : Map} {N : Nat → Prop} {w : World} {L : Looks} {al : Nat} {ρ : Operand → Value} {o : Oper}

theorem does_un {op : UnOp} {t : TypeId} {xo : Operand} (ho : o.op = .unOp op t xo) (hS : SimB X β N w L) {a r : AV} (hx : VR (All X β L) β N w a (ρ xo)) (hr : (aUn op a).run = some r) :
    Does P o ρ w (Step X β N w L al L r) := by
  unfold aUn at hr
  split at hr <;> simp [M.run] at hr <;> subst hr
  · have hx' := VR.d_iff.1 hx
    refine ⟨_, w, .inl ?_, Step.same hS (VR.d_iff.2 rfl)⟩
    simp [execOp, ho, VRd.int_iff.1 hx', Op.unary, Op.intArith]
  · have hx' := VR.d_iff.1 hx
    refine ⟨_, w, .inl ?_, Step.same hS (VR.d_iff.2 rfl)⟩
    simp [execOp, ho, VRd.int_iff.1 hx', Op.unary, Op.intBits]
  · have hx' := VR.d_iff.1 hx
    refine ⟨_, w, .inl ?_, Step.same hS (VR.d_iff.2 rfl)⟩
    simp [execOp, ho, VRd.bool_iff.1 hx', Op.unary]

theorem does_toInt {s d : TypeId} {xo : Operand} {k' : IntKind} (ho : o.op = .convert s d xo) {k0 : IntKind} (hs : P.underlying s = some (.int k0)) (hd : P.underlying d = some (.int k')) (hS : SimB X β N w L) {k : IntKind} {n : Int} (hx : ρ xo = .int k n) :
    Does P o ρ w (Step X β N w L al L (.d (.int k' (k'.wrap n)))) := by
  refine ⟨_, w, .inl ?_, Step.same hS (VR.d_iff.2 rfl)⟩
  simp [execOp, ho, hx, convert, run_underlying hs, run_underlying hd, Conv.intToInt]

theorem does_conv_str {s d : TypeId} {xo : Operand} (ho : o.op = .convert s d xo) (hs : P.underlying s = some .string) (hd : P.underlying d = some .string) (hS : SimB X β N w L) {l : List UInt8} (hx : VR (All X β L) β N w (.d (.str l)) (ρ xo)) :
    Does P o ρ w (Step X β N w L al L (.d (.str l))) := by
  obtain ⟨u, hu, _⟩ := VR.d_iff.1 hx
  refine ⟨ρ xo, w, .inl ?_, Step.same hS hx⟩
  simp [execOp, ho, hu, convert, run_underlying hs, run_underlying hd]

/-- A comparison of two values of which equality is known. -/
theorem does_eq {op : BinOp} {ng : Bool} {t yt : TypeId} {xo yo : Operand} (ho : o.op = .binOp op t xo yo yt) (hop : isNeg op = some ng) (hS : SimB X β N w L) {r : Bool}
    (hg : (eqGuard op t xo yo (ρ xo) (ρ yo)).run P w = .ok () w)
    (hb : (binOp op t (ρ xo) (ρ yo)).run P w = .ok (.bool (cond ng (!r) r)) w) :
    Does P o ρ w (Step X β N w L al L (.d (.bool (cond ng (!r) r)))) := by
  refine ⟨_, w, .inl ?_, Step.same hS (VR.d_iff.2 rfl)⟩
  simp [execOp, ho, Sem.run_bind, hg, hb]

theorem does_eqb {op : BinOp} {ng : Bool} {t yt : TypeId} {xo yo : Operand} (ho : o.op = .binOp op t xo yo yt) (hop : isNeg op = some ng) (ht : P.underlying t = some .bool) (hS : SimB X β N w L) {a b : Bool} (hx : ρ xo = .bool a) (hy : ρ yo = .bool b) :
    Does P o ρ w (Step X β N w L al L (.d (.bool (cond ng (!(a == b)) (a == b))))) := by
  refine does_eq ho hop hS (by rw [hx, hy]; exact run_eqGuard_int _ _ _ _ _ _ ⟨by simp, by simp⟩) ?_
  have he := run_equal_bool (P := P) w t a b ht
  cases op <;> simp [isNeg] at hop <;> subst hop <;> simp [hx, hy, binOp, Sem.run_bind, he]

def isNilFunc : Value → Bool
  | .nilFunc => true
  | _ => false

theorem run_equalIn_func_nil (d : Nat) (t : TypeId) {ps rs : Array TypeId} {va : Bool} (h : P.underlying t = some (.func ps rs va)) (x : Value) (hx : x = .nilFunc ∨ ∃ f a b, x = .func f a b) :
    (Op.equalIn (d + 1) t x .nilFunc).run P w = .ok (isNilFunc x) w := by
  rcases hx with rfl | ⟨f, a, b, rfl⟩ <;> simp [Op.equalIn, run_underlying h, isNilFunc]

theorem run_equal_func_nil (t : TypeId) {ps rs : Array TypeId} {va : Bool} (h : P.underlying t = some (.func ps rs va)) (x : Value) (hx : x = .nilFunc ∨ ∃ f a b, x = .func f a b) :
    (Op.equal t x .nilFunc).run P w = .ok (isNilFunc x) w := run_equalIn_func_nil 9999 t h x hx

theorem isNil_sound {k : Nat} {a : AV} {r : Bool} {v : Value} (hr : (isNil k a).run = some r) (hx : VR (All X β L) β N w a v) {t : TypeId} (hk : kindNil P t = some k) {y : Operand} {u : Value} (hy : constNil y = some k) (hu : y = .const u) :
    (Op.equal t v u).run P w = .ok r w ∧ (∀ cs, v ≠ .agg cs) ∧ v ≠ .nilIface ∧ (k = 0 → ∃ q m c, v = .slice q m c) ∧ (k = 1 → ∃ q, v = .pointer q) ∧ (k = 2 → v = .nilFunc ∨ ∃ f a b, v = .func f a b) := by
  subst hu
  have hd : (k = 0 ∧ ∃ e, P.underlying t = some (.slice e)) ∨ (k = 1 ∧ ∃ e, P.underlying t = some (.pointer e)) ∨ (k = 2 ∧ ∃ a b c, P.underlying t = some (.func a b c)) := by
    unfold kindNil at hk
    split at hk <;> simp at hk <;> subst hk
    · exact .inl ⟨rfl, _, by assumption⟩
    · exact .inr (.inl ⟨rfl, _, by assumption⟩)
    · exact .inr (.inr ⟨rfl, _, _, _, by assumption⟩)
  have hc : (k = 0 ∧ u = .slice none 0 0) ∨ (k = 1 ∧ u = .pointer none) ∨ (k = 2 ∧ u = .nilFunc) := by
    unfold constNil at hy
    split at hy <;> simp at hy <;> subst hy <;> rename_i he <;> cases he <;> simp
  have sliceCase : ∀ q m c, v = .slice q m c → k = 0 → q.isNone = r →
      (Op.equal t v u).run P w = .ok r w ∧ (∀ cs, v ≠ .agg cs) ∧ v ≠ .nilIface ∧ (k = 0 → ∃ q m c, v = .slice q m c) ∧ (k = 1 → ∃ q, v = .pointer q) ∧ (k = 2 → v = .nilFunc ∨ ∃ f a b, v = .func f a b) := by
    rintro q m c rfl rfl rfl
    rcases hd with ⟨_, e, he⟩ | ⟨h, _⟩ | ⟨h, _⟩ <;> try cases h
    rcases hc with ⟨_, rfl⟩ | ⟨h, _⟩ | ⟨h, _⟩ <;> try cases h
    exact ⟨run_equal_slice_nil w t e q m c he, by simp, by simp, fun _ => ⟨_, _, _, rfl⟩, by simp, by simp⟩
  have ptrCase : ∀ q, v = .pointer q → k = 1 → q.isNone = r →
      (Op.equal t v u).run P w = .ok r w ∧ (∀ cs, v ≠ .agg cs) ∧ v ≠ .nilIface ∧ (k = 0 → ∃ q m c, v = .slice q m c) ∧ (k = 1 → ∃ q, v = .pointer q) ∧ (k = 2 → v = .nilFunc ∨ ∃ f a b, v = .func f a b) := by
    rintro q rfl rfl rfl
    rcases hd with ⟨h, _⟩ | ⟨_, e, he⟩ | ⟨h, _⟩ <;> try cases h
    rcases hc with ⟨h, _⟩ | ⟨_, rfl⟩ | ⟨h, _⟩ <;> try cases h
    refine ⟨run_equal_pointer_nil w t q (by rw [he]; simp [Program.pointee, he]), by simp, by simp, by simp, fun _ => ⟨_, rfl⟩, by simp⟩
  have fnCase : ∀ (hv : v = .nilFunc ∨ ∃ f a b, v = .func f a b), k = 2 → isNilFunc v = r →
      (Op.equal t v u).run P w = .ok r w ∧ (∀ cs, v ≠ .agg cs) ∧ v ≠ .nilIface ∧ (k = 0 → ∃ q m c, v = .slice q m c) ∧ (k = 1 → ∃ q, v = .pointer q) ∧ (k = 2 → v = .nilFunc ∨ ∃ f a b, v = .func f a b) := by
    rintro hv rfl rfl
    rcases hd with ⟨h, _⟩ | ⟨h, _⟩ | ⟨_, a, b, c, he⟩ <;> try cases h
    rcases hc with ⟨h, _⟩ | ⟨h, _⟩ | ⟨_, rfl⟩ <;> try cases h
    refine ⟨run_equal_func_nil t he v hv, ?_, ?_, by simp, by simp, fun _ => hv⟩
    · rcases hv with rfl | ⟨f, a, b, rfl⟩ <;> simp
    · rcases hv with rfl | ⟨f, a, b, rfl⟩ <;> simp
  unfold isNil at hr
  split at hr <;> simp only [M.run, M.run_ifb, M.run_chk, Option.some.injEq, reduceCtorEq, beq_iff_eq] at hr
  · obtain ⟨rfl, rfl⟩ := hr; exact sliceCase _ _ _ (VR.d_iff.1 hx) rfl rfl
  · obtain ⟨rfl, rfl⟩ := hr; exact ptrCase _ (VR.d_iff.1 hx) rfl rfl
  · obtain ⟨rfl, rfl⟩ := hr
    have : v = .nilFunc := VR.d_iff.1 hx
    subst this
    exact fnCase (.inl rfl) rfl rfl
  · obtain ⟨rfl, hne, rfl⟩ := hr
    have hq : RD (All X β L) w (.sl _) _ (fun _ => some v) := VR.d_iff.1 hx
    obtain ⟨v', e, h⟩ := RD.slice hq
    cases e
    rcases h with ⟨_, _, _, _, rfl⟩ | ⟨c, off, cap, rfl, _⟩
    · simp at hne
    · exact sliceCase _ _ _ rfl rfl rfl
  · obtain ⟨rfl, rfl⟩ := hr; obtain ⟨_, c, _, rfl⟩ := VR.ptr_iff.1 hx; exact ptrCase _ rfl rfl rfl
  · obtain ⟨rfl, rfl⟩ := hr; obtain ⟨_, c, _, rfl⟩ := VR.eptr_iff.1 hx; exact ptrCase _ rfl rfl rfl
  · obtain ⟨rfl, rfl⟩ := hr; obtain ⟨c, base, _, _, rfl, _⟩ := VR.cptr_iff.1 hx; exact ptrCase _ rfl rfl rfl
  · obtain ⟨rfl, rfl⟩ := hr; obtain ⟨_, rfl, _⟩ := VR.snil_iff.1 hx; exact ptrCase _ rfl rfl rfl
  · obtain ⟨rfl, rfl⟩ := hr; obtain ⟨vs, rfl, _⟩ := VR.fn_iff.1 hx; exact fnCase (.inr ⟨_, _, _, rfl⟩) rfl rfl
  · obtain ⟨rfl, hne, rfl⟩ := hr
    obtain ⟨_, _, h⟩ := VR.sr_iff.1 hx
    rcases h with ⟨_, _, _, rfl, _⟩ | ⟨c, kk, _, rfl, _⟩
    · simp at hne
    · exact sliceCase _ _ _ rfl rfl rfl

theorem does_isnil {op : BinOp} {ng : Bool} {t yt : TypeId} {xo yo : Operand} {k : Nat} (ho : o.op = .binOp op t xo yo yt) (hop : isNeg op = some ng) (hS : SimB X β N w L) {a : AV} {r : Bool} (hx : VR (All X β L) β N w a (ρ xo))
    (hr : (isNil k a).run = some r) (hk : kindNil P t = some k) (hy : constNil yo = some k) (hρ : ∀ u, yo = .const u → ρ yo = u) :
    Does P o ρ w (Step X β N w L al L (.d (.bool (cond ng (!r) r)))) := by
  obtain ⟨u, hu⟩ : ∃ u, yo = .const u := by
    unfold constNil at hy
    split at hy <;> first | exact ⟨_, rfl⟩ | cases hy
  have hru := hρ u hu
  obtain ⟨he, h1, h2, h3, h4, h5⟩ := isNil_sound (P := P) hr hx hk hy hu
  refine does_eq ho hop hS (run_eqGuard_int _ _ _ _ _ _ ⟨h1, h2⟩) ?_
  rw [hru]
  have hk' : k = 0 ∧ u = .slice none 0 0 ∨ k = 1 ∧ u = .pointer none ∨ k = 2 ∧ u = .nilFunc := by
    subst hu
    unfold constNil at hy
    split at hy <;> simp at hy <;> subst hy <;> rename_i hh <;> cases hh <;> simp
  rcases hk' with ⟨rfl, rfl⟩ | ⟨rfl, rfl⟩ | ⟨rfl, rfl⟩
  · obtain ⟨q, m, c, hv⟩ := h3 rfl
    rw [hv] at he ⊢
    cases op <;> simp [isNeg] at hop <;> subst hop <;> simp [binOp, Sem.run_bind, he]
  · obtain ⟨q, hv⟩ := h4 rfl
    rw [hv] at he ⊢
    cases op <;> simp [isNeg] at hop <;> subst hop <;> simp [binOp, Sem.run_bind, he]
  · rcases h5 rfl with hv | ⟨f, b, c, hv⟩
    · rw [hv] at he ⊢
      cases op <;> simp [isNeg] at hop <;> subst hop <;> simp [binOp, Sem.run_bind, he]
    · rw [hv] at he ⊢
      cases op <;> simp [isNeg] at hop <;> subst hop <;> simp [binOp, Sem.run_bind, he]

end
end Go.Ev
