/- The evaluator's operations are the model's: all that are no calls. No condition. -/
import Derived.Test.YtnmakkgomplchaaGreatDoorEvP
namespace Go.Ev
set_option linter.unusedVariables false
set_option linter.unusedSimpArgs false
set_option linter.unusedSectionVars false
variable [Ctx]

def AOp.calls : AOp → Bool
  | .call _ | .callv => true
  | _ => false

theorem run_bind_some {α β : Type} {m : M α} {f : α → M β} {b : β} (h : (m.bind f).run = some b) : ∃ a, m.run = some a ∧ (f a).run = some b := by
  rw [M.run_bind] at h
  cases hm : m.run with
  | none => rw [hm] at h; simp at h
  | some a => rw [hm] at h; exact ⟨a, rfl, by simpa using h⟩

section
variable {P : Program} {X : Blocks} {β : Map} {N : Nat → Prop} {w : World} {L : Looks} {al : Nat} {ρ : Operand → Value} {o : Oper}

theorem elemTy_run {e : TypeId} {t : Ty} (h : elemTy P e = some t) : sizeT P e = some t.size ∧ 0 < t.size := by
  unfold elemTy at h
  split at h
  · split at h
    · rename_i hh; cases h; exact ⟨hh.1, hh.2.1⟩
    · cases h
  · cases h

section
variable {byref : FuncId → Bool} {call : Caller} {B : Boxes} {op : AOp} {xs : List Operand} {as : List AV} {res : Res}

theorem go_mv {x : Operand} (ho : o.op = .move x ∨ o.op = .assign x) (hS : SimB X β N w (look B)) (hx : VRs (All X β (look B)) β N w as ([x].map ρ)) (hr : (evOp byref call .mv as B al).run = some res) :
    Does P o ρ w (Step X β N w (look B) al (updsL (look B) res.writes) res.val) := by
  rcases as with _ | ⟨a, _ | ⟨b, r⟩⟩
  · simp [evOp, M.run] at hr
  · simp only [evOp, M.run, Option.some.injEq] at hr
    subst hr
    obtain ⟨v, e, hv⟩ := VRs.one hx
    simp at e
    subst e
    exact does_mv ho hS hv
  · simp [evOp, M.run] at hr

theorem go_pick {c x y : Operand} (ho : o.op = .pick c x y) (hS : SimB X β N w (look B)) (hal : ¬ N al) (hx : VRs (All X β (look B)) β N w as ([c, x, y].map ρ)) (hr : (evOp byref call .pick as B al).run = some res) :
    Does P o ρ w (Step X β N w (look B) al (updsL (look B) res.writes) res.val) := by
  unfold evOp at hr
  split at hr <;> rename_i heq <;> first | (cases heq; done) | skip
  all_goals first | (simp [M.run] at hr; done) | skip
  cases heq
  rename_i t a b
  simp only [M.run, Option.some.injEq] at hr
  subst hr
  obtain ⟨v, vs, e, hv, hvs⟩ := VRs.cons hx
  obtain ⟨v2, v3, e2, h2, h3⟩ := VRs.two hvs
  subst e2
  simp at e
  obtain ⟨rfl, rfl, rfl⟩ := e
  exact does_pick ho hS (VR.d_iff.1 hv) h2 h3

theorem go_box {e : TypeId} {x : Operand} {n : Nat} (ho : o.op = .box e x) (hS : SimB X β N w (look B)) (hal : ¬ N al) (hx : VRs (All X β (look B)) β N w as ([x].map ρ)) (hr : (evOp byref call (.box n) as B al).run = some res) :
    Does P o ρ w (Step X β N w (look B) al (updsL (look B) res.writes) res.val) := by
  rcases as with _ | ⟨a, _ | ⟨b, r⟩⟩
  · simp [evOp, M.run] at hr
  rotate_left
  · simp [evOp, M.run] at hr
  obtain ⟨v, e, hv⟩ := VRs.one hx
  simp at e
  subst e
  simp only [evOp] at hr
  rw [M.run_ifb] at hr
  obtain ⟨h1, hr⟩ := hr
  simp only [M.run, Option.some.injEq] at hr
  subst hr
  simp only [Bool.and_eq_true] at h1
  exact does_box ho hS hal hv h1.2

theorem go_alloc {e : TypeId} {zs : List AV} (ho : o.op = .alloc e) (hz : zeroAVs P e = some zs) (hS : SimB X β N w (look B)) (hal : ¬ N al) (hx : VRs (All X β (look B)) β N w as (([] : List Operand).map ρ)) (hr : (evOp byref call (.alloc zs) as B al).run = some res) :
    Does P o ρ w (Step X β N w (look B) al (updsL (look B) res.writes) res.val) := by
  rcases as with _ | ⟨a, r⟩
  rotate_left
  · simp [evOp, M.run] at hr
  simp only [evOp, M.run, Option.some.injEq] at hr
  subst hr
  exact does_alloc ho hS hal hz

theorem go_nilArr {x : Operand} {t : Ty} (ho : o.op = .assign x) (hx0 : ρ x = .slice none 0 0) (hS : SimB X β N w (look B)) (hal : ¬ N al) (hx : VRs (All X β (look B)) β N w as (([] : List Operand).map ρ)) (hr : (evOp byref call (.nilArr t) as B al).run = some res) :
    Does P o ρ w (Step X β N w (look B) al (updsL (look B) res.writes) res.val) := by
  rcases as with _ | ⟨a, r⟩
  rotate_left
  · simp [evOp, M.run] at hr
  simp only [evOp] at hr
  rw [M.run_ifb] at hr
  obtain ⟨h1, hr⟩ := hr
  simp only [M.run, Option.some.injEq] at hr
  subst hr
  exact does_nilArr ho hx0 hS hal (by simpa [Nat.blt_eq] using h1)

theorem go_build {t : TypeId} {ps : Array (Nat × Operand)} {fs : Array Field} {zs : List AV} {pl : List (Nat × Nat)} (ho : o.op = .build t ps) (hu : P.underlying t = some (.struct fs)) (hz : zeroAVs P t = some zs) (hpl : placesS P fs ps.toList = some pl) (hall : fs.all (fun f => (sizeT P f.type).isSome) = true) (hS : SimB X β N w (look B)) (hal : ¬ N al) (hx : VRs (All X β (look B)) β N w as ((ps.toList.map (·.2)).map ρ)) (hr : (evOp byref call (.build zs pl) as B al).run = some res) :
    Does P o ρ w (Step X β N w (look B) al (updsL (look B) res.writes) res.val) := by
  simp only [evOp] at hr
  obtain ⟨cs, h1, h2⟩ := run_bind_some hr
  simp only [M.run, Option.some.injEq] at h2
  subst h2
  exact does_build ho hu hz hpl hS hx h1 hall

theorem go_lit {t e : TypeId} {n : Nat} {ps : Array (Nat × Operand)} {ty : Ty} (ho : o.op = .buildSlice t n ps) (hu : P.underlying t = some (.slice e)) (hn : sizeT P e = some ty.size) (h0 : 0 < ty.size) (hz : zeroT P e ty = true) (hsz : n * ty.size ≤ 16777216) (hS : SimB X β N w (look B)) (hal : ¬ N al) (htag : Ctx.tag ty e) (hx : VRs (All X β (look B)) β N w as ((ps.toList.map (·.2)).map ρ)) (hr : (evOp byref call (.lit ty n (ps.toList.map (·.1))) as B al).run = some res) :
    Does P o ρ w (Step X β N w (look B) al (updsL (look B) res.writes) res.val) := by
  simp only [evOp] at hr
  rw [M.run_ifb] at hr
  obtain ⟨h1, hr⟩ := hr
  simp only [Bool.and_eq_true, List.all_eq_true] at h1
  obtain ⟨⟨cs, ws⟩, h2, hr⟩ := run_bind_some hr
  obtain ⟨l, h3, hr⟩ := run_bind_some hr
  simp only [M.run, Option.some.injEq] at hr
  subst hr
  exact does_lit ho hu hn h0 hz hsz hS hal htag hx h2 h3 fun i hi => by simpa [Nat.blt_eq] using h1.2 i hi

theorem go_load {t : TypeId} {x : Operand} {n : Nat} (ho : o.op = .load t x) (hu : (P.underlying t).isSome = true) (hn : sizeT P t = some n) (hS : SimB X β N w (look B)) (hal : ¬ N al) (hx : VRs (All X β (look B)) β N w as ([x].map ρ)) (hr : (evOp byref call (.load (aggT P t) n) as B al).run = some res) :
    Does P o ρ w (Step X β N w (look B) al (updsL (look B) res.writes) res.val) := by
  rcases as with _ | ⟨a, _ | ⟨b, r⟩⟩
  · simp [evOp, M.run] at hr
  rotate_left
  · simp [evOp, M.run] at hr
  obtain ⟨v, e, hv⟩ := VRs.one hx
  simp at e
  subst e
  simp only [evOp] at hr
  obtain ⟨⟨cs, rs⟩, h1, hr⟩ := run_bind_some hr
  simp only at hr
  split at hr
  · rename_i ha
    simp only [M.run, Option.some.injEq] at hr
    subst hr
    exact does_load ho hu hn hS hv h1 (.inl ⟨ha, rfl⟩)
  · rename_i c ha
    simp only [M.run, Option.some.injEq] at hr
    subst hr
    exact does_load ho hu hn hS hv h1 (.inr ⟨ha, rfl⟩)
  · simp [M.run] at hr

theorem go_chk {x : Operand} (ho : o.op = .nilCheck x) (hS : SimB X β N w (look B)) (hal : ¬ N al) (hx : VRs (All X β (look B)) β N w as ([x].map ρ)) (hr : (evOp byref call .chk as B al).run = some res) :
    Does P o ρ w (Step X β N w (look B) al (updsL (look B) res.writes) res.val) := by
  rcases as with _ | ⟨a, _ | ⟨b, r⟩⟩
  · simp [evOp, M.run] at hr
  rotate_left
  · simp [evOp, M.run] at hr
  obtain ⟨v, e, hv⟩ := VRs.one hx
  simp at e
  subst e
  simp only [evOp] at hr
  split at hr
  · simp only [M.run, Option.some.injEq] at hr; subst hr
    obtain ⟨_, c, _, e⟩ := VR.ptr_iff.1 hv
    exact does_chk ho hS hv ⟨_, .inl e⟩
  · simp only [M.run, Option.some.injEq] at hr; subst hr
    obtain ⟨_, c, _, e⟩ := VR.eptr_iff.1 hv
    exact does_chk ho hS hv ⟨_, .inl e⟩
  · simp only [M.run, Option.some.injEq] at hr; subst hr
    obtain ⟨c, base, _, _, e, _⟩ := VR.cptr_iff.1 hv
    exact does_chk ho hS hv ⟨_, .inl e⟩
  · simp only [M.run, Option.some.injEq] at hr; subst hr
    obtain ⟨vs, e, _⟩ := VR.fn_iff.1 hv
    exact does_chk ho hS hv ⟨⟨0, 0, none⟩, .inr ⟨_, _, e⟩⟩
  · simp [M.run] at hr

theorem go_bin {bop : BinOp} {t yt : TypeId} {x y : Operand} (ho : o.op = .binOp bop t x y yt) (hS : SimB X β N w (look B)) (hal : ¬ N al) (hx : VRs (All X β (look B)) β N w as ([x, y].map ρ)) (hr : (evOp byref call (.bin bop) as B al).run = some res) :
    Does P o ρ w (Step X β N w (look B) al (updsL (look B) res.writes) res.val) := by
  rcases as with _ | ⟨a, _ | ⟨b, _ | ⟨c', r⟩⟩⟩
  · simp [evOp, M.run] at hr
  · simp [evOp, M.run] at hr
  rotate_left
  · simp [evOp, M.run] at hr
  obtain ⟨v1, v2, e, hv1, hv2⟩ := VRs.two hx
  simp at e
  obtain ⟨rfl, rfl⟩ := e
  simp only [evOp] at hr
  obtain ⟨r, h1, hr⟩ := run_bind_some hr
  simp only [M.run, Option.some.injEq] at hr
  subst hr
  unfold aBin at h1
  split at h1
  · rename_i k m k' n
    have e1 : ρ x = .int k m := VR.d_iff.1 hv1
    have e2 : ρ y = .int k' n := VR.d_iff.1 hv2
    split at h1
    · obtain ⟨d, h2, h3⟩ := run_bind_some h1
      simp only [M.run, Option.some.injEq] at h3
      subst h3
      exact does_bin_shift ho hS e1 e2 h2
    · obtain ⟨d, h2, h3⟩ := run_bind_some h1
      simp only [M.run, Option.some.injEq] at h3
      subst h3
      exact does_bin_shift ho hS e1 e2 h2
    · rename_i n1 n2
      rw [M.run_ifb] at h1
      obtain ⟨hk, h1⟩ := h1
      have hk' : k = k' := by simpa using hk
      subst hk'
      obtain ⟨d, h2, h3⟩ := run_bind_some h1
      simp only [M.run, Option.some.injEq] at h3
      subst h3
      exact does_bin_int ho hS e1 e2 ⟨fun h => n1 h, fun h => n2 h⟩ h2
  · obtain ⟨d, h2, h3⟩ := run_bind_some h1
    simp only [M.run, Option.some.injEq] at h3
    subst h3
    exact does_bin_str ho hS hv1 hv2 h2
  · simp [M.run] at h1

theorem go_un {uop : UnOp} {t : TypeId} {x : Operand} (ho : o.op = .unOp uop t x) (hS : SimB X β N w (look B)) (hal : ¬ N al) (hx : VRs (All X β (look B)) β N w as ([x].map ρ)) (hr : (evOp byref call (.un uop) as B al).run = some res) :
    Does P o ρ w (Step X β N w (look B) al (updsL (look B) res.writes) res.val) := by
  rcases as with _ | ⟨a, _ | ⟨b, r⟩⟩
  · simp [evOp, M.run] at hr
  rotate_left
  · simp [evOp, M.run] at hr
  obtain ⟨v, e, hv⟩ := VRs.one hx
  simp at e
  subst e
  simp only [evOp] at hr
  obtain ⟨r, h1, hr⟩ := run_bind_some hr
  simp only [M.run, Option.some.injEq] at hr
  subst hr
  exact does_un ho hS hv h1

theorem go_toInt {s d : TypeId} {x : Operand} {k k0 : IntKind} (ho : o.op = .convert s d x) (hs : P.underlying s = some (.int k0)) (hd : P.underlying d = some (.int k)) (hS : SimB X β N w (look B)) (hal : ¬ N al) (hx : VRs (All X β (look B)) β N w as ([x].map ρ)) (hr : (evOp byref call (.toInt k) as B al).run = some res) :
    Does P o ρ w (Step X β N w (look B) al (updsL (look B) res.writes) res.val) := by
  unfold evOp at hr
  split at hr <;> rename_i heq <;> first | (cases heq; done) | skip
  all_goals first | (simp [M.run] at hr; done) | skip
  cases heq
  obtain ⟨v, e, hv⟩ := VRs.one hx
  simp at e
  subst e
  simp only [M.run, Option.some.injEq] at hr
  subst hr
  exact does_toInt ho hs hd hS (VR.d_iff.1 hv)

theorem go_fld {s f : Nat} {x : Operand} {fs : Array Field} {fd : Field} {n : Nat} (ho : o.op = .fieldAddr s x f) (hu : P.underlying s = some (.struct fs)) (hf : fs[f]? = some fd) (hn : sizeT P fd.type = some n) (h0 : n ≠ 0) (hS : SimB X β N w (look B)) (hal : ¬ N al) (hx : VRs (All X β (look B)) β N w as ([x].map ρ)) (hr : (evOp byref call (.fld fd.offset) as B al).run = some res) :
    Does P o ρ w (Step X β N w (look B) al (updsL (look B) res.writes) res.val) := by
  rcases as with _ | ⟨a, _ | ⟨b, r⟩⟩
  · simp [evOp, M.run] at hr
  rotate_left
  · simp [evOp, M.run] at hr
  obtain ⟨v, e, hv⟩ := VRs.one hx
  simp at e
  subst e
  simp only [evOp] at hr
  split at hr
  · simp only [M.run, Option.some.injEq] at hr; subst hr
    obtain ⟨hN, c, hc, e⟩ := VR.ptr_iff.1 hv
    exact does_fld ho hu hf hn h0 hS e (VR.ptr_iff.2 ⟨hN, c, hc, rfl⟩)
  · simp only [M.run, Option.some.injEq] at hr; subst hr
    obtain ⟨hN, c, hc, e⟩ := VR.eptr_iff.1 hv
    exact does_fld ho hu hf hn h0 hS e (VR.eptr_iff.2 ⟨hN, c, hc, by rw [Nat.add_assoc]⟩)
  · simp only [M.run, Option.some.injEq] at hr; subst hr
    obtain ⟨c, base, h1, h2, e, h3⟩ := VR.cptr_iff.1 hv
    exact does_fld ho hu hf hn h0 hS e (VR.cptr_iff.2 ⟨c, base, h1, h2, by rw [Nat.add_assoc], h3⟩)
  · simp [M.run] at hr

theorem go_get {t : TypeId} {x : Operand} {f : Nat} {fs : Array Field} {fd : Field} {n : Nat} (ho : o.op = .field t x f) (ht : P.underlying t = some (.struct fs)) (hf : fs[f]? = some fd) (hn : sizeT P fd.type = some n) (hu : (P.underlying fd.type).isSome = true) (hS : SimB X β N w (look B)) (hal : ¬ N al) (hx : VRs (All X β (look B)) β N w as ([x].map ρ)) (hr : (evOp byref call (.get (aggT P fd.type) fd.offset n) as B al).run = some res) :
    Does P o ρ w (Step X β N w (look B) al (updsL (look B) res.writes) res.val) := by
  unfold evOp at hr
  split at hr <;> rename_i heq <;> first | (cases heq; done) | skip
  all_goals first | (simp [M.run] at hr; done) | skip
  cases heq
  obtain ⟨v, e, hv⟩ := VRs.one hx
  simp at e
  subst e
  rw [M.run_ifb] at hr
  obtain ⟨h1, hr⟩ := hr
  have h1' := Nat.le_of_ble_eq_true h1
  split at hr
  · rename_i ha
    simp only [M.run, Option.some.injEq] at hr
    subst hr
    exact does_get ho ht hf hn hu hS hv h1' (.inl ⟨ha, rfl⟩)
  · rename_i ha he
    simp only [M.run, Option.some.injEq] at hr
    subst hr
    exact does_get ho ht hf hn hu hS hv h1' (.inr ⟨ha, he⟩)
  · simp [M.run] at hr

theorem go_elm {t e : TypeId} {x i : Operand} {sz : Nat} (ho : o.op = .indexAddr t x i) (hu : P.underlying t = some (.slice e)) (hn : sizeT P e = some sz) (hS : SimB X β N w (look B)) (hal : ¬ N al) (hx : VRs (All X β (look B)) β N w as ([x, i].map ρ)) (hr : (evOp byref call (.elm sz) as B al).run = some res) :
    Does P o ρ w (Step X β N w (look B) al (updsL (look B) res.writes) res.val) := by
  unfold evOp at hr
  split at hr <;> rename_i heq <;> first | (cases heq; done) | skip
  all_goals first | (simp [M.run] at hr; done) | skip
  cases heq
  obtain ⟨v1, v2, e, hv1, hv2⟩ := VRs.two hx
  simp at e
  obtain ⟨rfl, rfl⟩ := e
  split at hr
  · rw [M.run_ifb, M.run_chk, M.run_chk] at hr
    obtain ⟨h1, h2, h3, hr⟩ := hr
    simp only [M.run, Option.some.injEq] at hr
    subst hr
    simp only [beq_iff_eq] at h1
    subst h1
    exact does_elm_sl (x := 0) (i := 0) ho hu hn hS hv1 (VR.d_iff.1 hv2) (by simpa using h2) (by simpa using h3)
  · rw [M.run_ifb, M.run_chk, M.run_chk] at hr
    obtain ⟨h1, h2, h3, hr⟩ := hr
    simp only [M.run, Option.some.injEq] at hr
    subst hr
    simp only [beq_iff_eq] at h1
    subst h1
    exact does_elm_sr ho hu hn hS hv1 (VR.d_iff.1 hv2) (by simpa using h2) (by simpa using h3)
  · simp [M.run] at hr

theorem go_chr {t : TypeId} {x i : Operand} (ho : o.op = .index t x i) (hu : P.underlying t = some .string) (hS : SimB X β N w (look B)) (hal : ¬ N al) (hx : VRs (All X β (look B)) β N w as ([x, i].map ρ)) (hr : (evOp byref call .chr as B al).run = some res) :
    Does P o ρ w (Step X β N w (look B) al (updsL (look B) res.writes) res.val) := by
  unfold evOp at hr
  split at hr <;> rename_i heq <;> first | (cases heq; done) | skip
  all_goals first | (simp [M.run] at hr; done) | skip
  cases heq
  obtain ⟨v1, v2, e, hv1, hv2⟩ := VRs.two hx
  simp at e
  obtain ⟨rfl, rfl⟩ := e
  rw [M.run_chk, M.run_chk] at hr
  obtain ⟨h2, h3, hr⟩ := hr
  simp only [M.run, Option.some.injEq] at hr
  subst hr
  exact does_chr ho hu hS hv1 (VR.d_iff.1 hv2) (by simpa using h2) (by simpa using h3)

theorem go_cut {t : TypeId} {x : Operand} {lo hi mx : Option Operand} {sz : Nat} (ho : o.op = .slice t x lo hi mx) (hu : (P.underlying t = some .string ∧ sz = 0) ∨ ∃ e, P.underlying t = some (.slice e) ∧ sizeT P e = some sz ∧ sz ≠ 0) (hS : SimB X β N w (look B)) (hal : ¬ N al) (hx : VRs (All X β (look B)) β N w as (([x] ++ lo.toList ++ hi.toList ++ mx.toList).map ρ)) (hr : (evOp byref call (.cut sz lo.isSome hi.isSome mx.isSome) as B al).run = some res) :
    Does P o ρ w (Step X β N w (look B) al (updsL (look B) res.writes) res.val) := by
  rcases as with _ | ⟨a, as⟩
  · simp [evOp, M.run] at hr
  simp only [evOp] at hr
  rw [show [x] ++ lo.toList ++ hi.toList ++ mx.toList = x :: (lo.toList ++ (hi.toList ++ (mx.toList ++ []))) by simp] at hx
  obtain ⟨v, vs, e, hv, hvs⟩ := VRs.cons hx
  simp only [List.map_cons, List.cons.injEq] at e
  obtain ⟨rfl, rfl⟩ := e
  obtain ⟨⟨nl, s1⟩, h1, hr⟩ := run_bind_some hr
  obtain ⟨⟨nh, s2⟩, h2, hr⟩ := run_bind_some hr
  obtain ⟨⟨nm, s3⟩, h3, hr⟩ := run_bind_some hr
  obtain ⟨b1, hvs⟩ := optI_sound (rest := hi.toList ++ (mx.toList ++ [])) rfl h1 hvs
  obtain ⟨b2, hvs⟩ := optI_sound (rest := mx.toList ++ []) rfl h2 hvs
  obtain ⟨b3, hvs⟩ := optI_sound (rest := []) rfl h3 hvs
  simp only at hr
  split at hr
  · obtain ⟨r, h4, hr⟩ := run_bind_some hr
    simp only [M.run, Option.some.injEq] at hr
    subst hr
    have nomx : nm = none → mx = none := by
      rintro rfl
      rcases b3 with ⟨h, _⟩ | ⟨_, _, _, _, _, h⟩
      · exact h
      · cases h
    unfold aCut at h4
    split at h4
    · split at h4
      · simp [M.run] at h4
      · have := nomx rfl
        subst this
        rw [M.run_ifb] at h4
        obtain ⟨hz, h4⟩ := h4
        obtain ⟨hh, h5, h4⟩ := run_bind_some h4
        obtain ⟨ll, h6, h4⟩ := run_bind_some h4
        simp only [M.run, Option.some.injEq] at h4
        subst h4
        rcases hu with ⟨hu, _⟩ | ⟨e, hu, hn, hne⟩
        · exact does_cut_str ho hu hS hv b1 b2 h5 h6
        · exact (hne (by simpa using hz)).elim
    · split at h4
      · simp [M.run] at h4
      · have := nomx rfl
        subst this
        rw [M.run_ifb] at h4
        obtain ⟨hz, h4⟩ := h4
        obtain ⟨hh, h5, h4⟩ := run_bind_some h4
        obtain ⟨ll, h6, h4⟩ := run_bind_some h4
        simp only [M.run, Option.some.injEq] at h4
        subst h4
        rcases hu with ⟨hu, rfl⟩ | ⟨e, hu, hn, hne⟩
        · simp at hz
        · exact does_cut_nils ho hu hn hS (VR.d_iff.1 hv) b1 b2 h5 h6
    · split at h4
      · simp [M.run] at h4
      · have := nomx rfl
        subst this
        rw [M.run_ifb] at h4
        obtain ⟨hz, h4⟩ := h4
        obtain ⟨hh, h5, h4⟩ := run_bind_some h4
        obtain ⟨ll, h6, h4⟩ := run_bind_some h4
        simp only [M.run, Option.some.injEq] at h4
        subst h4
        simp only [Bool.and_eq_true, beq_iff_eq, Bool.not_eq_true', beq_eq_false_iff_ne] at hz
        obtain ⟨rfl, hz⟩ := hz
        rcases hu with ⟨hu, h0⟩ | ⟨e, hu, hn, hne⟩
        · exact (hz h0).elim
        · exact does_cut_sl ho hu hn hS hv b1 b2 h5 h6
    · split at h4
      · simp [M.run] at h4
      · have := nomx rfl
        subst this
        rw [M.run_ifb] at h4
        obtain ⟨hz, h4⟩ := h4
        obtain ⟨hh, h5, h4⟩ := run_bind_some h4
        obtain ⟨ll, h6, h4⟩ := run_bind_some h4
        simp only [Bool.and_eq_true, beq_iff_eq, Bool.not_eq_true', beq_eq_false_iff_ne] at hz
        obtain ⟨rfl, hz⟩ := hz
        rcases hu with ⟨hu, h0⟩ | ⟨e, hu, hn, hne⟩
        · exact (hz h0).elim
        · simp only [M.run] at h4
          generalize h7 : (decide (ll < _) || decide (ll = 0)) = q at h4
          cases q with
          | true =>
            simp only [cond_true, M.run, Option.some.injEq] at h4
            subst h4
            exact does_cut_sr ho hu hn hS hv b1 b2 h5 h6 (by simpa using h7)
          | false =>
            simp only [cond_false, M.run, Option.some.injEq] at h4
            subst h4
            exact does_cut_any ho hu hn hS hv b1 b2 h5 h6
    · simp [M.run] at h4
  · simp [M.run] at hr

end

end
end Go.Ev
