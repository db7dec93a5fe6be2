/- The evaluator's operations are the model's: all that are no calls. No condition. The evaluator's operations are the model's: all that are no calls. No condition. Operations that the machine does itself; texts and rows of bytes. No condition. Operations: nil interfaces, variables of a type that points at itself, SliceData and String of the package of raw memory. No condition. append of so many zero -/
import Derived.Test.YtahdcmicifokgaaDoorQF1
import Derived.Laws.IdiomStrings
import Derived.Laws.AppendOwn
import Derived.Laws.BytesString
import Derived.Lib.UnsafeStr
import Derived.Lib.Overlaps
import Derived.MapKept
import Derived.Orders
import Derived.Scope
import Derived.LoopN
namespace Go.Ev
set_option linter.unusedVariables false
set_option linter.unusedSimpArgs false
set_option linter.unusedSectionVars false
variable [Ctx]

def AOp.calls : AOp → Bool
  | .call _ | .callv => true
  | _ => false

theorem run_bind_some {α β : Type} {m : M α} {f : α → M β} {b : β} (h : (m.bind f).run = some b) : ∃ a, m.run = some a ∧ (f a).run = some b := by
  rw [M.run_bind] at h
  cases hm : m.run with
  | none => rw [hm] at h; simp at h
  | some a => rw [hm] at h; exact ⟨a, rfl, by simpa using h⟩

section
variable {P : Program} {X : Blocks} {β : Map} {N : Nat → Prop} {w : World} {L : Looks} {al : Nat} {ρ : Operand → Value} {o : Oper}

theorem elemTy_run {e : TypeId} {t : Ty} (h : elemTy P e = some t) : sizeT P e = some t.size ∧ 0 < t.size := by
  unfold elemTy at h
  split at h
  · split at h
    · rename_i hh; cases h; exact ⟨hh.1, hh.2.1⟩
    · cases h
  · cases h

section
variable {byref : FuncId → Bool} {call : Caller} {B : Boxes} {op : AOp} {xs : List Operand} {as : List AV} {res : Res}

theorem go_mv {x : Operand} (ho : o.op = .move x ∨ o.op = .assign x) (hS : SimB X β N w (look B)) (hx : VRs (All X β (look B)) β N w as ([x].map ρ)) (hr : (evOp byref call .mv as B al).run = some res) :
    Does P o ρ w (Step X β N w (look B) al (updsL (look B) res.writes) res.val) := by
  rcases as with _ | ⟨a, _ | ⟨b, r⟩⟩
  · simp [evOp, M.run] at hr
  · simp only [evOp, M.run, Option.some.injEq] at hr
    subst hr
    obtain ⟨v, e, hv⟩ := VRs.one hx
    simp at e
    subst e
    exact does_mv ho hS hv
  · simp [evOp, M.run] at hr

theorem go_pick {c x y : Operand} (ho : o.op = .pick c x y) (hS : SimB X β N w (look B)) (hal : ¬ N al) (hx : VRs (All X β (look B)) β N w as ([c, x, y].map ρ)) (hr : (evOp byref call .pick as B al).run = some res) :
    Does P o ρ w (Step X β N w (look B) al (updsL (look B) res.writes) res.val) := by
  unfold evOp at hr
  split at hr <;> rename_i heq <;> first | (cases heq; done) | skip
  all_goals first | (simp [M.run] at hr; done) | skip
  cases heq
  rename_i t a b
  simp only [M.run, Option.some.injEq] at hr
  subst hr
  obtain ⟨v, vs, e, hv, hvs⟩ := VRs.cons hx
  obtain ⟨v2, v3, e2, h2, h3⟩ := VRs.two hvs
  subst e2
  simp at e
  obtain ⟨rfl, rfl, rfl⟩ := e
  exact does_pick ho hS (VR.d_iff.1 hv) h2 h3

theorem go_box {e : TypeId} {x : Operand} {n : Nat} (ho : o.op = .box e x) (hS : SimB X β N w (look B)) (hal : ¬ N al) (hx : VRs (All X β (look B)) β N w as ([x].map ρ)) (hr : (evOp byref call (.box n) as B al).run = some res) :
    Does P o ρ w (Step X β N w (look B) al (updsL (look B) res.writes) res.val) := by
  rcases as with _ | ⟨a, _ | ⟨b, r⟩⟩
  · simp [evOp, M.run] at hr
  rotate_left
  · simp [evOp, M.run] at hr
  obtain ⟨v, e, hv⟩ := VRs.one hx
  simp at e
  subst e
  simp only [evOp] at hr
  rw [M.run_ifb] at hr
  obtain ⟨h1, hr⟩ := hr
  simp only [M.run, Option.some.injEq] at hr
  subst hr
  simp only [Bool.and_eq_true] at h1
  exact does_box ho hS hal hv h1.2

theorem go_alloc {e : TypeId} {zs : List AV} (ho : o.op = .alloc e) (hz : zeroAVs P e = some zs) (hS : SimB X β N w (look B)) (hal : ¬ N al) (hx : VRs (All X β (look B)) β N w as (([] : List Operand).map ρ)) (hr : (evOp byref call (.alloc zs) as B al).run = some res) :
    Does P o ρ w (Step X β N w (look B) al (updsL (look B) res.writes) res.val) := by
  rcases as with _ | ⟨a, r⟩
  rotate_left
  · simp [evOp, M.run] at hr
  simp only [evOp, M.run, Option.some.injEq] at hr
  subst hr
  exact does_alloc ho hS hal hz

theorem go_nilArr {x : Operand} {t : Ty} (ho : o.op = .assign x) (hx0 : ρ x = .slice none 0 0) (hS : SimB X β N w (look B)) (hal : ¬ N al) (hx : VRs (All X β (look B)) β N w as (([] : List Operand).map ρ)) (hr : (evOp byref call (.nilArr t) as B al).run = some res) :
    Does P o ρ w (Step X β N w (look B) al (updsL (look B) res.writes) res.val) := by
  rcases as with _ | ⟨a, r⟩
  rotate_left
  · simp [evOp, M.run] at hr
  simp only [evOp] at hr
  rw [M.run_ifb] at hr
  obtain ⟨h1, hr⟩ := hr
  simp only [M.run, Option.some.injEq] at hr
  subst hr
  exact does_nilArr ho hx0 hS hal (by simpa [Nat.blt_eq] using h1)

theorem go_build {t : TypeId} {ps : Array (Nat × Operand)} {fs : Array Field} {zs : List AV} {pl : List (Nat × Nat)} (ho : o.op = .build t ps) (hu : P.underlying t = some (.struct fs)) (hz : zeroAVs P t = some zs) (hpl : placesS P fs ps.toList = some pl) (hall : fs.all (fun f => (sizeT P f.type).isSome) = true) (hS : SimB X β N w (look B)) (hal : ¬ N al) (hx : VRs (All X β (look B)) β N w as ((ps.toList.map (·.2)).map ρ)) (hr : (evOp byref call (.build zs pl) as B al).run = some res) :
    Does P o ρ w (Step X β N w (look B) al (updsL (look B) res.writes) res.val) := by
  simp only [evOp] at hr
  obtain ⟨cs, h1, h2⟩ := run_bind_some hr
  simp only [M.run, Option.some.injEq] at h2
  subst h2
  exact does_build ho hu hz hpl hS hx h1 hall

theorem Does.mono {ρ : Operand → Value} {S S' : Value → World → Prop} (h : Does P o ρ w S) (k : ∀ v w', S v w' → S' v w') : Does P o ρ w S' := by
  obtain ⟨v, w', h1, h2⟩ := h
  exact ⟨v, w', h1, k _ _ h2⟩

theorem Step.forget {X : Blocks} {β : Map} {N : Nat → Prop} {w : World} {L L' : Looks} {al b off len sz : Nat} {cap : Option Nat} {v : Value} {w' : World} (h : Step X β N w L al L' (.sr b off len sz cap) v w') : Step X β N w L al L' (.sr b off len sz none) v w' := by
  obtain ⟨β', N', h1, h2, h3⟩ := h
  refine ⟨β', N', h1, ?_, h3⟩
  obtain ⟨a1, a2, a3⟩ := VR.sr_iff.1 h2
  refine VR.sr_iff.2 ⟨a1, a2, ?_⟩
  rcases a3 with ⟨b1, b2, b3, b4, _⟩ | ⟨c, k, b1, b2, b3, _, b5⟩
  · exact .inl ⟨b1, b2, b3, b4, rfl⟩
  · exact .inr ⟨c, k, b1, b2, b3, fun k' e => (by cases e), b5⟩

theorem go_lit {t e : TypeId} {n : Nat} {ps : Array (Nat × Operand)} {ty : Ty} (ho : o.op = .buildSlice t n ps) (hu : P.underlying t = some (.slice e)) (hn : sizeT P e = some ty.size) (h0 : 0 < ty.size) (hz : zeroT P e ty = true) (hsz : n * ty.size ≤ 16777216) (hS : SimB X β N w (look B)) (hal : ¬ N al) (htag : Ctx.tag ty e) (hx : VRs (All X β (look B)) β N w as ((ps.toList.map (·.2)).map ρ)) (hr : (evOp byref call (.lit ty n (ps.toList.map (·.1))) as B al).run = some res) :
    Does P o ρ w (Step X β N w (look B) al (updsL (look B) res.writes) res.val) := by
  simp only [evOp] at hr
  rw [M.run_ifb] at hr
  obtain ⟨h1, hr⟩ := hr
  simp only [Bool.and_eq_true, List.all_eq_true] at h1
  obtain ⟨⟨cs, ws⟩, h2, hr⟩ := run_bind_some hr
  obtain ⟨l, h3, hr⟩ := run_bind_some hr
  simp only [M.run, Option.some.injEq] at hr
  subst hr
  have hd := does_lit ho hu hn h0 hz hsz hS hal htag hx h2 h3 fun i hi => by simpa [Nat.blt_eq] using h1.2 i hi
  unfold litCap
  split
  · exact hd.mono fun v w' h => h.forget
  · exact hd

theorem go_load {t : TypeId} {x : Operand} {n : Nat} (ho : o.op = .load t x) (hu : (P.underlying t).isSome = true) (hn : sizeT P t = some n) (hS : SimB X β N w (look B)) (hal : ¬ N al) (hx : VRs (All X β (look B)) β N w as ([x].map ρ)) (hr : (evOp byref call (.load (aggT P t) n) as B al).run = some res) :
    Does P o ρ w (Step X β N w (look B) al (updsL (look B) res.writes) res.val) := by
  rcases as with _ | ⟨a, _ | ⟨b, r⟩⟩
  · simp [evOp, M.run] at hr
  rotate_left
  · simp [evOp, M.run] at hr
  obtain ⟨v, e, hv⟩ := VRs.one hx
  simp at e
  subst e
  simp only [evOp] at hr
  obtain ⟨⟨cs, rs⟩, h1, hr⟩ := run_bind_some hr
  simp only at hr
  split at hr
  · rename_i ha
    simp only [M.run, Option.some.injEq] at hr
    subst hr
    exact does_load ho hu hn hS hv h1 (.inl ⟨ha, rfl⟩)
  · rename_i c ha
    simp only [M.run, Option.some.injEq] at hr
    subst hr
    exact does_load ho hu hn hS hv h1 (.inr ⟨ha, rfl⟩)
  · simp [M.run] at hr

theorem go_chk {x : Operand} (ho : o.op = .nilCheck x) (hS : SimB X β N w (look B)) (hal : ¬ N al) (hx : VRs (All X β (look B)) β N w as ([x].map ρ)) (hr : (evOp byref call .chk as B al).run = some res) :
    Does P o ρ w (Step X β N w (look B) al (updsL (look B) res.writes) res.val) := by
  rcases as with _ | ⟨a, _ | ⟨b, r⟩⟩
  · simp [evOp, M.run] at hr
  rotate_left
  · simp [evOp, M.run] at hr
  obtain ⟨v, e, hv⟩ := VRs.one hx
  simp at e
  subst e
  simp only [evOp] at hr
  split at hr
  · simp only [M.run, Option.some.injEq] at hr; subst hr
    obtain ⟨_, c, _, e⟩ := VR.ptr_iff.1 hv
    exact does_chk ho hS hv ⟨_, .inl e⟩
  · simp only [M.run, Option.some.injEq] at hr; subst hr
    obtain ⟨_, c, _, e⟩ := VR.eptr_iff.1 hv
    exact does_chk ho hS hv ⟨_, .inl e⟩
  · simp only [M.run, Option.some.injEq] at hr; subst hr
    obtain ⟨c, base, _, _, e, _⟩ := VR.cptr_iff.1 hv
    exact does_chk ho hS hv ⟨_, .inl e⟩
  · simp only [M.run, Option.some.injEq] at hr; subst hr
    obtain ⟨vs, e, _⟩ := VR.fn_iff.1 hv
    exact does_chk ho hS hv ⟨⟨0, 0, none⟩, .inr ⟨_, _, e⟩⟩
  · simp [M.run] at hr

theorem go_bin {bop : BinOp} {t yt : TypeId} {x y : Operand} (ho : o.op = .binOp bop t x y yt) (hS : SimB X β N w (look B)) (hal : ¬ N al) (hx : VRs (All X β (look B)) β N w as ([x, y].map ρ)) (hr : (evOp byref call (.bin bop) as B al).run = some res) :
    Does P o ρ w (Step X β N w (look B) al (updsL (look B) res.writes) res.val) := by
  rcases as with _ | ⟨a, _ | ⟨b, _ | ⟨c', r⟩⟩⟩
  · simp [evOp, M.run] at hr
  · simp [evOp, M.run] at hr
  rotate_left
  · simp [evOp, M.run] at hr
  obtain ⟨v1, v2, e, hv1, hv2⟩ := VRs.two hx
  simp at e
  obtain ⟨rfl, rfl⟩ := e
  simp only [evOp] at hr
  obtain ⟨r, h1, hr⟩ := run_bind_some hr
  simp only [M.run, Option.some.injEq] at hr
  subst hr
  unfold aBin at h1
  split at h1
  · rename_i k m k' n
    have e1 : ρ x = .int k m := VR.d_iff.1 hv1
    have e2 : ρ y = .int k' n := VR.d_iff.1 hv2
    split at h1
    · obtain ⟨d, h2, h3⟩ := run_bind_some h1
      simp only [M.run, Option.some.injEq] at h3
      subst h3
      exact does_bin_shift ho hS e1 e2 h2
    · obtain ⟨d, h2, h3⟩ := run_bind_some h1
      simp only [M.run, Option.some.injEq] at h3
      subst h3
      exact does_bin_shift ho hS e1 e2 h2
    · rename_i n1 n2
      rw [M.run_ifb] at h1
      obtain ⟨hk, h1⟩ := h1
      have hk' : k = k' := by simpa using hk
      subst hk'
      obtain ⟨d, h2, h3⟩ := run_bind_some h1
      simp only [M.run, Option.some.injEq] at h3
      subst h3
      exact does_bin_int ho hS e1 e2 ⟨fun h => n1 h, fun h => n2 h⟩ h2
  · obtain ⟨d, h2, h3⟩ := run_bind_some h1
    simp only [M.run, Option.some.injEq] at h3
    subst h3
    exact does_bin_str ho hS hv1 hv2 h2
  · simp [M.run] at h1

theorem go_un {uop : UnOp} {t : TypeId} {x : Operand} (ho : o.op = .unOp uop t x) (hS : SimB X β N w (look B)) (hal : ¬ N al) (hx : VRs (All X β (look B)) β N w as ([x].map ρ)) (hr : (evOp byref call (.un uop) as B al).run = some res) :
    Does P o ρ w (Step X β N w (look B) al (updsL (look B) res.writes) res.val) := by
  rcases as with _ | ⟨a, _ | ⟨b, r⟩⟩
  · simp [evOp, M.run] at hr
  rotate_left
  · simp [evOp, M.run] at hr
  obtain ⟨v, e, hv⟩ := VRs.one hx
  simp at e
  subst e
  simp only [evOp] at hr
  obtain ⟨r, h1, hr⟩ := run_bind_some hr
  simp only [M.run, Option.some.injEq] at hr
  subst hr
  exact does_un ho hS hv h1

theorem go_toInt {s d : TypeId} {x : Operand} {k k0 : IntKind} (ho : o.op = .convert s d x) (hs : P.underlying s = some (.int k0)) (hd : P.underlying d = some (.int k)) (hS : SimB X β N w (look B)) (hal : ¬ N al) (hx : VRs (All X β (look B)) β N w as ([x].map ρ)) (hr : (evOp byref call (.toInt k) as B al).run = some res) :
    Does P o ρ w (Step X β N w (look B) al (updsL (look B) res.writes) res.val) := by
  unfold evOp at hr
  split at hr <;> rename_i heq <;> first | (cases heq; done) | skip
  all_goals first | (simp [M.run] at hr; done) | skip
  cases heq
  obtain ⟨v, e, hv⟩ := VRs.one hx
  simp at e
  subst e
  simp only [M.run, Option.some.injEq] at hr
  subst hr
  exact does_toInt ho hs hd hS (VR.d_iff.1 hv)

theorem go_fld {s f : Nat} {x : Operand} {fs : Array Field} {fd : Field} {n : Nat} (ho : o.op = .fieldAddr s x f) (hu : P.underlying s = some (.struct fs)) (hf : fs[f]? = some fd) (hn : sizeT P fd.type = some n) (h0 : n ≠ 0) (hS : SimB X β N w (look B)) (hal : ¬ N al) (hx : VRs (All X β (look B)) β N w as ([x].map ρ)) (hr : (evOp byref call (.fld fd.offset) as B al).run = some res) :
    Does P o ρ w (Step X β N w (look B) al (updsL (look B) res.writes) res.val) := by
  rcases as with _ | ⟨a, _ | ⟨b, r⟩⟩
  · simp [evOp, M.run] at hr
  rotate_left
  · simp [evOp, M.run] at hr
  obtain ⟨v, e, hv⟩ := VRs.one hx
  simp at e
  subst e
  simp only [evOp] at hr
  split at hr
  · simp only [M.run, Option.some.injEq] at hr; subst hr
    obtain ⟨hN, c, hc, e⟩ := VR.ptr_iff.1 hv
    exact does_fld ho hu hf hn h0 hS e (VR.ptr_iff.2 ⟨hN, c, hc, rfl⟩)
  · simp only [M.run, Option.some.injEq] at hr; subst hr
    obtain ⟨hN, c, hc, e⟩ := VR.eptr_iff.1 hv
    exact does_fld ho hu hf hn h0 hS e (VR.eptr_iff.2 ⟨hN, c, hc, by rw [Nat.add_assoc]⟩)
  · simp only [M.run, Option.some.injEq] at hr; subst hr
    obtain ⟨c, base, h1, h2, e, h3⟩ := VR.cptr_iff.1 hv
    exact does_fld ho hu hf hn h0 hS e (VR.cptr_iff.2 ⟨c, base, h1, h2, by rw [Nat.add_assoc], h3⟩)
  · simp [M.run] at hr

theorem go_get {t : TypeId} {x : Operand} {f : Nat} {fs : Array Field} {fd : Field} {n : Nat} (ho : o.op = .field t x f) (ht : P.underlying t = some (.struct fs)) (hf : fs[f]? = some fd) (hn : sizeT P fd.type = some n) (hu : (P.underlying fd.type).isSome = true) (hS : SimB X β N w (look B)) (hal : ¬ N al) (hx : VRs (All X β (look B)) β N w as ([x].map ρ)) (hr : (evOp byref call (.get (aggT P fd.type) fd.offset n) as B al).run = some res) :
    Does P o ρ w (Step X β N w (look B) al (updsL (look B) res.writes) res.val) := by
  unfold evOp at hr
  split at hr <;> rename_i heq <;> first | (cases heq; done) | skip
  all_goals first | (simp [M.run] at hr; done) | skip
  cases heq
  obtain ⟨v, e, hv⟩ := VRs.one hx
  simp at e
  subst e
  rw [M.run_ifb] at hr
  obtain ⟨h1, hr⟩ := hr
  have h1' := Nat.le_of_ble_eq_true h1
  split at hr
  · rename_i ha
    simp only [M.run, Option.some.injEq] at hr
    subst hr
    exact does_get ho ht hf hn hu hS hv h1' (.inl ⟨ha, rfl⟩)
  · rename_i ha he
    simp only [M.run, Option.some.injEq] at hr
    subst hr
    exact does_get ho ht hf hn hu hS hv h1' (.inr ⟨ha, he⟩)
  · simp [M.run] at hr

theorem go_elm {t e : TypeId} {x i : Operand} {sz : Nat} (ho : o.op = .indexAddr t x i) (hu : P.underlying t = some (.slice e)) (hn : sizeT P e = some sz) (hS : SimB X β N w (look B)) (hal : ¬ N al) (hx : VRs (All X β (look B)) β N w as ([x, i].map ρ)) (hr : (evOp byref call (.elm sz) as B al).run = some res) :
    Does P o ρ w (Step X β N w (look B) al (updsL (look B) res.writes) res.val) := by
  unfold evOp at hr
  split at hr <;> rename_i heq <;> first | (cases heq; done) | skip
  all_goals first | (simp [M.run] at hr; done) | skip
  cases heq
  obtain ⟨v1, v2, e, hv1, hv2⟩ := VRs.two hx
  simp at e
  obtain ⟨rfl, rfl⟩ := e
  split at hr
  · rw [M.run_ifb, M.run_chk, M.run_chk] at hr
    obtain ⟨h1, h2, h3, hr⟩ := hr
    simp only [M.run, Option.some.injEq] at hr
    subst hr
    simp only [beq_iff_eq] at h1
    subst h1
    exact does_elm_sl (x := 0) (i := 0) ho hu hn hS hv1 (VR.d_iff.1 hv2) (by simpa using h2) (by simpa using h3)
  · rw [M.run_ifb, M.run_chk, M.run_chk] at hr
    obtain ⟨h1, h2, h3, hr⟩ := hr
    simp only [M.run, Option.some.injEq] at hr
    subst hr
    simp only [beq_iff_eq] at h1
    subst h1
    exact does_elm_sr ho hu hn hS hv1 (VR.d_iff.1 hv2) (by simpa using h2) (by simpa using h3)
  · simp [M.run] at hr

theorem go_chr {t : TypeId} {x i : Operand} (ho : o.op = .index t x i) (hu : P.underlying t = some .string) (hS : SimB X β N w (look B)) (hal : ¬ N al) (hx : VRs (All X β (look B)) β N w as ([x, i].map ρ)) (hr : (evOp byref call .chr as B al).run = some res) :
    Does P o ρ w (Step X β N w (look B) al (updsL (look B) res.writes) res.val) := by
  unfold evOp at hr
  split at hr <;> rename_i heq <;> first | (cases heq; done) | skip
  all_goals first | (simp [M.run] at hr; done) | skip
  cases heq
  obtain ⟨v1, v2, e, hv1, hv2⟩ := VRs.two hx
  simp at e
  obtain ⟨rfl, rfl⟩ := e
  rw [M.run_chk, M.run_chk] at hr
  obtain ⟨h2, h3, hr⟩ := hr
  simp only [M.run, Option.some.injEq] at hr
  subst hr
  exact does_chr ho hu hS hv1 (VR.d_iff.1 hv2) (by simpa using h2) (by simpa using h3)

theorem go_cut {t : TypeId} {x : Operand} {lo hi mx : Option Operand} {sz : Nat} (ho : o.op = .slice t x lo hi mx) (hu : (P.underlying t = some .string ∧ sz = 0) ∨ ∃ e, P.underlying t = some (.slice e) ∧ sizeT P e = some sz ∧ sz ≠ 0) (hS : SimB X β N w (look B)) (hal : ¬ N al) (hx : VRs (All X β (look B)) β N w as (([x] ++ lo.toList ++ hi.toList ++ mx.toList).map ρ)) {ot : Option Ty} (hr : (evOp byref call (.cut ot sz lo.isSome hi.isSome mx.isSome) as B al).run = some res) :
    Does P o ρ w (Step X β N w (look B) al (updsL (look B) res.writes) res.val) := by
  rcases as with _ | ⟨a, as⟩
  · simp [evOp, M.run] at hr
  simp only [evOp] at hr
  rw [show [x] ++ lo.toList ++ hi.toList ++ mx.toList = x :: (lo.toList ++ (hi.toList ++ (mx.toList ++ []))) by simp] at hx
  obtain ⟨v, vs, e, hv, hvs⟩ := VRs.cons hx
  simp only [List.map_cons, List.cons.injEq] at e
  obtain ⟨rfl, rfl⟩ := e
  obtain ⟨⟨nl, s1⟩, h1, hr⟩ := run_bind_some hr
  obtain ⟨⟨nh, s2⟩, h2, hr⟩ := run_bind_some hr
  obtain ⟨⟨nm, s3⟩, h3, hr⟩ := run_bind_some hr
  obtain ⟨b1, hvs⟩ := optI_sound (rest := hi.toList ++ (mx.toList ++ [])) rfl h1 hvs
  obtain ⟨b2, hvs⟩ := optI_sound (rest := mx.toList ++ []) rfl h2 hvs
  obtain ⟨b3, hvs⟩ := optI_sound (rest := []) rfl h3 hvs
  simp only at hr
  split at hr
  · obtain ⟨r, h4, hr⟩ := run_bind_some hr
    simp only [M.run, Option.some.injEq] at hr
    subst hr
    have nomx : nm = none → mx = none := by
      rintro rfl
      rcases b3 with ⟨h, _⟩ | ⟨_, _, _, _, _, h⟩
      · exact h
      · cases h
    unfold aCut at h4
    split at h4
    · split at h4
      · simp [M.run] at h4
      · have := nomx rfl
        subst this
        rw [M.run_ifb] at h4
        obtain ⟨hz, h4⟩ := h4
        obtain ⟨hh, h5, h4⟩ := run_bind_some h4
        obtain ⟨ll, h6, h4⟩ := run_bind_some h4
        simp only [M.run, Option.some.injEq] at h4
        subst h4
        rcases hu with ⟨hu, _⟩ | ⟨e, hu, hn, hne⟩
        · exact does_cut_str ho hu hS hv b1 b2 h5 h6
        · exact (hne (by simpa using hz)).elim
    · split at h4
      · simp [M.run] at h4
      · have := nomx rfl
        subst this
        rw [M.run_ifb] at h4
        obtain ⟨hz, h4⟩ := h4
        obtain ⟨hh, h5, h4⟩ := run_bind_some h4
        obtain ⟨ll, h6, h4⟩ := run_bind_some h4
        simp only [M.run, Option.some.injEq] at h4
        subst h4
        rcases hu with ⟨hu, rfl⟩ | ⟨e, hu, hn, hne⟩
        · simp at hz
        · exact does_cut_nils ho hu hn hS (VR.d_iff.1 hv) b1 b2 h5 h6
    · split at h4
      · simp [M.run] at h4
      · have := nomx rfl
        subst this
        rw [M.run_ifb] at h4
        obtain ⟨hz, h4⟩ := h4
        obtain ⟨hh, h5, h4⟩ := run_bind_some h4
        obtain ⟨ll, h6, h4⟩ := run_bind_some h4
        simp only [M.run, Option.some.injEq] at h4
        subst h4
        simp only [Bool.and_eq_true, beq_iff_eq, Bool.not_eq_true', beq_eq_false_iff_ne] at hz
        obtain ⟨rfl, hz⟩ := hz
        rcases hu with ⟨hu, h0⟩ | ⟨e, hu, hn, hne⟩
        · exact (hz h0).elim
        · exact does_cut_sl ho hu hn hS hv b1 b2 h5 h6
    · split at h4
      · simp [M.run] at h4
      · have := nomx rfl
        subst this
        rw [M.run_ifb] at h4
        obtain ⟨hz, h4⟩ := h4
        obtain ⟨hh, h5, h4⟩ := run_bind_some h4
        obtain ⟨ll, h6, h4⟩ := run_bind_some h4
        simp only [Bool.and_eq_true, beq_iff_eq, Bool.not_eq_true', beq_eq_false_iff_ne] at hz
        obtain ⟨rfl, hz⟩ := hz
        rcases hu with ⟨hu, h0⟩ | ⟨e, hu, hn, hne⟩
        · exact (hz h0).elim
        · simp only [M.run] at h4
          generalize h7 : (decide (ll < _) || decide (ll = 0)) = q at h4
          cases q with
          | true =>
            simp only [cond_true, M.run, Option.some.injEq] at h4
            subst h4
            exact does_cut_sr ho hu hn hS hv b1 b2 h5 h6 (by simpa using h7)
          | false =>
            simp only [cond_false, M.run, Option.some.injEq] at h4
            subst h4
            unfold emptyCut
            split
            · exact does_cut_emp ho hu hn hS hv b1 b2 h5 h6 (by simp at h7; omega)
            · exact does_cut_any ho hu hn hS hv b1 b2 h5 h6
    · simp [M.run] at h4
  · simp [M.run] at hr

end

end
end Go.Ev
namespace Go.Ev
set_option linter.unusedVariables false
set_option linter.unusedSimpArgs false
set_option linter.unusedSectionVars false
variable [Ctx]
section
variable {P : Program} {X : Blocks} {β : Map} {N : Nat → Prop} {w : World} {L : Looks} {al : Nat} {ρ : Operand → Value} {o : Oper}
variable {byref : FuncId → Bool} {call : Caller} {B : Boxes} {op : AOp} {xs : List Operand} {as : List AV} {res : Res}

theorem updsL_other (L : Looks) : ∀ (ws : List (Nat × Box)) {b : Nat}, b ∉ ws.map (·.1) → updsL L ws b = L b := by
  intro ws
  induction ws generalizing L with
  | nil => intro b _; rfl
  | cons x ws ih =>
    intro b hb
    simp only [List.map_cons, List.mem_cons, not_or] at hb
    show updsL (updL L x.1 x.2) ws b = L b
    rw [ih _ hb.2]
    exact if_neg hb.1

theorem go_eqb {bop : BinOp} {ng : Bool} {t yt : TypeId} {x y : Operand} (ho : o.op = .binOp bop t x y yt) (hop : isNeg bop = some ng) (ht : P.underlying t = some .bool) (hS : SimB X β N w (look B)) (hal : ¬ N al) (hx : VRs (All X β (look B)) β N w as ([x, y].map ρ)) (hr : (evOp byref call (.eqb ng) as B al).run = some res) :
    Does P o ρ w (Step X β N w (look B) al (updsL (look B) res.writes) res.val) := by
  unfold evOp at hr
  split at hr <;> rename_i heq <;> first | (cases heq; done) | skip
  all_goals first | (simp [M.run] at hr; done) | skip
  cases heq
  obtain ⟨v1, v2, e, hv1, hv2⟩ := VRs.two hx
  simp at e
  obtain ⟨rfl, rfl⟩ := e
  simp only [M.run, Option.some.injEq] at hr
  subst hr
  exact does_eqb ho hop ht hS (VR.d_iff.1 hv1) (VR.d_iff.1 hv2)

theorem go_isnil {bop : BinOp} {ng : Bool} {k : Nat} {t yt : TypeId} {x y : Operand} (ho : o.op = .binOp bop t x y yt) (hop : isNeg bop = some ng) (hk : kindNil P t = some k) (hy : constNil y = some k) (hρ : ∀ u, ρ (.const u) = u) (hS : SimB X β N w (look B)) (hal : ¬ N al) (hx : VRs (All X β (look B)) β N w as ([x].map ρ)) (hr : (evOp byref call (.isnil ng k) as B al).run = some res) :
    Does P o ρ w (Step X β N w (look B) al (updsL (look B) res.writes) res.val) := by
  rcases as with _ | ⟨a, _ | ⟨b, r⟩⟩
  · simp [evOp, M.run] at hr
  rotate_left
  · simp [evOp, M.run] at hr
  obtain ⟨v, e, hv⟩ := VRs.one hx
  simp at e
  subst e
  simp only [evOp] at hr
  obtain ⟨r, h1, hr⟩ := run_bind_some hr
  simp only [M.run, Option.some.injEq] at hr
  subst hr
  exact does_isnil ho hop hS hv h1 hk hy fun u hu => by rw [hu]; exact hρ u

theorem go_eqs {bop : BinOp} {ng : Bool} {t yt : TypeId} {x y : Operand} {fs : Array Field} {ks : List Nat} (ho : o.op = .binOp bop t x y yt) (hop : isNeg bop = some ng) (ht : P.underlying t = some (.struct fs)) (hks : eqKinds P 0 fs.toList = some ks) (hp : P.stoodInHeld t = false) (hgt : P.eqGuardType P.depth t = false) (hS : SimB X β N w (look B)) (hal : ¬ N al) (hx : VRs (All X β (look B)) β N w as ([x, y].map ρ)) (hr : (evOp byref call (.eqs ng ks) as B al).run = some res) :
    Does P o ρ w (Step X β N w (look B) al (updsL (look B) res.writes) res.val) := by
  unfold evOp at hr
  split at hr <;> rename_i heq <;> first | (cases heq; done) | skip
  all_goals first | (simp [M.run] at hr; done) | skip
  cases heq
  obtain ⟨v1, v2, e, hv1, hv2⟩ := VRs.two hx
  simp at e
  obtain ⟨rfl, rfl⟩ := e
  obtain ⟨r, h1, hr⟩ := run_bind_some hr
  simp only [M.run, Option.some.injEq] at hr
  subst hr
  exact does_eqs ho hop ht hks hp hgt hS hv1 hv2 h1

theorem go_ext {x : Operand} {i : Nat} (ho : o.op = .extract x i) (hS : SimB X β N w (look B)) (hal : ¬ N al) (hx : VRs (All X β (look B)) β N w as ([x].map ρ)) (hr : (evOp byref call (.ext i) as B al).run = some res) :
    Does P o ρ w (Step X β N w (look B) al (updsL (look B) res.writes) res.val) := by
  unfold evOp at hr
  split at hr <;> rename_i heq <;> first | (cases heq; done) | skip
  all_goals first | (simp [M.run] at hr; done) | skip
  cases heq
  obtain ⟨v, e, hv⟩ := VRs.one hx
  simp at e
  subst e
  split at hr
  · rename_i h
    simp only [M.run, Option.some.injEq] at hr
    subst hr
    exact does_ext ho hS hv h
  · simp [M.run] at hr

theorem go_store {t : TypeId} {x y : Operand} {n : Nat} (ho : o.op = .store t x y) (hn : sizeT P t = some n) (hS : SimB X β N w (look B)) (hal : ¬ N al) (hx : VRs (All X β (look B)) β N w as ([x, y].map ρ)) (hr : (evOp byref call (.store n) as B al).run = some res) :
    Does P o ρ w (Step X β N w (look B) al (updsL (look B) res.writes) res.val) := by
  rcases as with _ | ⟨a, _ | ⟨b, _ | ⟨c', r⟩⟩⟩
  · simp [evOp, M.run] at hr
  · simp [evOp, M.run] at hr
  rotate_left
  · simp [evOp, M.run] at hr
  obtain ⟨v1, v2, e, hv1, hv2⟩ := VRs.two hx
  simp at e
  obtain ⟨rfl, rfl⟩ := e
  simp only [evOp] at hr
  rw [M.run_ifb] at hr
  obtain ⟨h0, hr⟩ := hr
  simp only [Bool.and_eq_true, beq_iff_eq] at h0
  obtain ⟨hlen, hcell⟩ := h0
  split at hr
  · split at hr
    · rename_i l hl
      rw [M.run_ifb] at hr
      obtain ⟨hle, hr⟩ := hr
      simp only [M.run, Option.some.injEq] at hr
      subst hr
      exact does_store_ptr ho hn hS hv1 hl hv2 hcell hlen (Nat.le_of_ble_eq_true hle)
    · simp [M.run] at hr
  · split at hr
    · rename_i b0 i sz off _ ty l hl
      rw [M.run_ifb, M.run_chk] at hr
      obtain ⟨h1, h2, hr⟩ := hr
      simp only [Bool.and_eq_true, beq_iff_eq] at h1
      obtain ⟨rfl, h1⟩ := h1
      have h2' : i < l.length := by simpa using h2
      obtain ⟨⟨cs, ws⟩, h3, hr⟩ := run_bind_some hr
      rw [M.run_ifb] at hr
      obtain ⟨h4, hr⟩ := hr
      obtain ⟨z, h5, hr⟩ := run_bind_some hr
      simp only [M.run, Option.some.injEq] at hr
      subst hr
      obtain ⟨c1, c2⟩ := cells_VR hv2 (toDs_isCell _ _ h3)
      obtain ⟨a1, a2, a3, a4⟩ := toDs_sound b.cells cs ws _ (look B) hS (Cl.refl _) h3 c1
      have hL : updsL (look B) ws b0 = .arr ty l true := by
        rw [updsL_other _ _ (by simpa using h4)]
        exact hl
      have hg : l.getD i ty.dflt = l[i] := by simp [List.getD_eq_getElem?_getD, List.getElem?_eq_getElem h2']
      have hcl : cs.length = n := by
        have e1 := (VRds_iff cs _).1 a3 |>.1
        have e2 := VRs.len _ _ c1
        omega
      have hd := decAll_run h5
      rw [hg] at hd
      have mv := mv_cl (X := X) (N := N) a2
      obtain ⟨v', w', q1, q2⟩ := does_store_eptr (val := b) (al := al) ho hn a1 (hv1.move mv) hL h2' (Nat.le_of_ble_eq_true h1) a3 c2 hcl hd
      obtain ⟨β', N', s1, s2, s3, s4, s5⟩ := q2
      refine ⟨v', w', q1, β', N', ?_, ?_, ?_, s4, ?_⟩
      · rw [updsL_append]; exact s1
      · rw [updsL_append]; exact s2
      · rw [updsL_append]; exact a2.trans s3
      · rw [updsL_append]; exact s5
    · simp [M.run] at hr
  · simp [M.run] at hr

theorem go_len_str {c : Call} {t : TypeId} (ho : o.op = .call c) (hc : c.callee = .builtin .len) (ht : c.argTypes[0]? = some t) (hu : P.underlying t = some .string) (hS : SimB X β N w (look B)) (hal : ¬ N al) (hx : VRs (All X β (look B)) β N w as (c.args.toList.map ρ)) (hr : (evOp byref call (.len true) as B al).run = some res) :
    Does P o ρ w (Step X β N w (look B) al (updsL (look B) res.writes) res.val) := by
  rcases as with _ | ⟨a, _ | ⟨b, r⟩⟩
  · simp [evOp, M.run] at hr
  rotate_left
  · simp [evOp, M.run] at hr
  obtain ⟨v, e, hv⟩ := VRs.one hx
  obtain ⟨xo, ha, rfl⟩ : ∃ xo, c.args.toList = [xo] ∧ ρ xo = v := by
    cases hq : c.args.toList with
    | nil => rw [hq] at e; simp at e
    | cons p ps =>
      rw [hq] at e
      simp at e
      exact ⟨p, by rw [e.2], e.1⟩
  simp only [evOp] at hr
  split at hr
  · simp only [M.run, Option.some.injEq] at hr
    subst hr
    exact does_len ho hc ha ht (.inr hu) hS hv (.inl ⟨hu, _, rfl, rfl⟩)
  · simp [M.run] at hr

theorem go_len_sl {c : Call} {t e : TypeId} (ho : o.op = .call c) (hc : c.callee = .builtin .len) (ht : c.argTypes[0]? = some t) (hu : P.underlying t = some (.slice e)) (hS : SimB X β N w (look B)) (hal : ¬ N al) (hx : VRs (All X β (look B)) β N w as (c.args.toList.map ρ)) (hr : (evOp byref call (.len false) as B al).run = some res) :
    Does P o ρ w (Step X β N w (look B) al (updsL (look B) res.writes) res.val) := by
  rcases as with _ | ⟨a, _ | ⟨b, r⟩⟩
  · simp [evOp, M.run] at hr
  rotate_left
  · simp [evOp, M.run] at hr
  obtain ⟨v, e0, hv⟩ := VRs.one hx
  obtain ⟨xo, ha, rfl⟩ : ∃ xo, c.args.toList = [xo] ∧ ρ xo = v := by
    cases hq : c.args.toList with
    | nil => rw [hq] at e0; simp at e0
    | cons p ps =>
      rw [hq] at e0
      simp at e0
      exact ⟨p, by rw [e0.2], e0.1⟩
  simp only [evOp] at hr
  split at hr
  · rename_i ty l
    simp only [M.run, Option.some.injEq] at hr
    subst hr
    have hq : RD (All X β (look B)) w (.sl ty) l (fun _ => some (ρ xo)) := VR.d_iff.1 hv
    obtain ⟨v', e1, h⟩ := RD.slice hq
    cases e1
    rcases h with ⟨q, qc, h1, _, h2⟩ | ⟨c1, off, cap, h1, _⟩
    · exact does_len ho hc ha ht (.inl ⟨e, hu⟩) hS hv (.inr ⟨⟨e, hu⟩, q, qc, by rw [h1, h2]; rfl⟩)
    · exact does_len ho hc ha ht (.inl ⟨e, hu⟩) hS hv (.inr ⟨⟨e, hu⟩, _, _, h1⟩)
  · simp only [M.run, Option.some.injEq] at hr
    subst hr
    exact does_len (n := 0) ho hc ha ht (.inl ⟨e, hu⟩) hS hv (.inr ⟨⟨e, hu⟩, none, 0, VR.d_iff.1 hv⟩)
  · simp only [M.run, Option.some.injEq] at hr
    subst hr
    obtain ⟨_, _, h⟩ := VR.sr_iff.1 hv
    rcases h with ⟨_, h1, _, rfl, _⟩ | ⟨c1, k, _, h1, _⟩
    · exact does_len ho hc ha ht (.inl ⟨e, hu⟩) hS hv (.inr ⟨⟨e, hu⟩, none, 0, h1⟩)
    · exact does_len ho hc ha ht (.inl ⟨e, hu⟩) hS hv (.inr ⟨⟨e, hu⟩, _, _, h1⟩)
  · simp [M.run] at hr

theorem go_mini {c : Call} (ho : o.op = .call c) (hc : c.callee = .builtin .min) (hS : SimB X β N w (look B)) (hal : ¬ N al) (hx : VRs (All X β (look B)) β N w as (c.args.toList.map ρ)) (hr : (evOp byref call .mini as B al).run = some res) :
    Does P o ρ w (Step X β N w (look B) al (updsL (look B) res.writes) res.val) := by
  cases as with
  | nil => simp [evOp, M.run] at hr
  | cons a as =>
    simp only [evOp] at hr
    obtain ⟨r, h1, hr⟩ := run_bind_some hr
    simp only [M.run, Option.some.injEq] at hr
    subst hr
    exact does_min ho hc hS hx h1

theorem go_maxi {c : Call} (ho : o.op = .call c) (hc : c.callee = .builtin .max) (hS : SimB X β N w (look B)) (hal : ¬ N al) (hx : VRs (All X β (look B)) β N w as (c.args.toList.map ρ)) (hr : (evOp byref call .maxi as B al).run = some res) :
    Does P o ρ w (Step X β N w (look B) al (updsL (look B) res.writes) res.val) := by
  cases as with
  | nil => simp [evOp, M.run] at hr
  | cons a as =>
    simp only [evOp] at hr
    obtain ⟨r, h1, hr⟩ := run_bind_some hr
    simp only [M.run, Option.some.injEq] at hr
    subst hr
    exact does_max ho hc hS hx h1

theorem go_clo {f : FuncId} {first caps : Array Operand} (ho : o.op = .makeFunc (.func f) first caps) (hf : first.isEmpty = true) (hS : SimB X β N w (look B)) (hal : ¬ N al) (hx : VRs (All X β (look B)) β N w as (caps.toList.map ρ)) (hr : (evOp byref call (.clo f) as B al).run = some res) :
    Does P o ρ w (Step X β N w (look B) al (updsL (look B) res.writes) res.val) := by
  simp only [evOp, M.run, Option.some.injEq] at hr
  subst hr
  exact does_clo ho hf hS hx

theorem go_mk {t e : TypeId} {lo co : Operand} {ty : Ty} {by_ : Nat} (ho : o.op = .makeSlice t lo co) (hu : P.underlying t = some (.slice e)) (hn : sizeT P e = some ty.size) (h0 : 0 < ty.size) (hby : bytesT P e = some by_) (hz : zeroT P e ty = true) (hS : SimB X β N w (look B)) (hal : ¬ N al) (htag : Ctx.tag ty e) (hx : VRs (All X β (look B)) β N w as ([lo, co].map ρ)) (hr : (evOp byref call (.mk ty by_) as B al).run = some res) :
    Does P o ρ w (Step X β N w (look B) al (updsL (look B) res.writes) res.val) := by
  rcases as with _ | ⟨a, _ | ⟨b, _ | ⟨c', r⟩⟩⟩
  · simp [evOp, M.run] at hr
  · simp [evOp, M.run] at hr
  rotate_left
  · simp [evOp, M.run] at hr
  obtain ⟨v1, v2, e, hv1, hv2⟩ := VRs.two hx
  simp at e
  obtain ⟨rfl, rfl⟩ := e
  have isInt : ∀ {a : AV} {n : Int} {v : Value}, (asI a).run = some n → VR (All X β (look B)) β N w a v → ∃ k, v = .int k n := by
    intro a n v h hv
    unfold asI at h
    split at h
    · simp [M.run] at h; subst h; exact ⟨_, VR.d_iff.1 hv⟩
    · simp [M.run] at h
  simp only [evOp] at hr
  obtain ⟨n, h1, hr⟩ := run_bind_some hr
  obtain ⟨c, h2, hr⟩ := run_bind_some hr
  rw [M.run_ifb, M.run_chk, M.run_chk] at hr
  obtain ⟨_, h3, h4, hr⟩ := hr
  simp only [M.run, Option.some.injEq] at hr
  subst hr
  obtain ⟨k, e1⟩ := isInt h1 hv1
  obtain ⟨k', e2⟩ := isInt h2 hv2
  simp only [Bool.and_eq_true, decide_eq_true_eq] at h3 h4
  exact does_mk ho hu hn h0 hby hz hS hal htag e1 e2 h3.1 h3.2 h4.1 h4.2

theorem go_cpy {c : Call} {t u e : TypeId} {n : Nat} (ho : o.op = .call c) (hc : c.callee = .builtin .copy) (ht : c.argTypes.toList = [t, u]) (hu : P.underlying t = some (.slice e)) (hn : sizeT P e = some n) (hS : SimB X β N w (look B)) (hal : ¬ N al) (hx : VRs (All X β (look B)) β N w as (c.args.toList.map ρ)) (hr : (evOp byref call (.cpy n) as B al).run = some res) :
    Does P o ρ w (Step X β N w (look B) al (updsL (look B) res.writes) res.val) := by
  rcases as with _ | ⟨a, _ | ⟨b, _ | ⟨c', r⟩⟩⟩
  · simp [evOp, M.run] at hr
  · simp [evOp, M.run] at hr
  rotate_left
  · simp [evOp, M.run] at hr
  obtain ⟨v1, v2, e0, hv1, hv2⟩ := VRs.two hx
  obtain ⟨xo, yo, ha, rfl, rfl⟩ : ∃ xo yo, c.args.toList = [xo, yo] ∧ ρ xo = v1 ∧ ρ yo = v2 := by
    cases hq : c.args.toList with
    | nil => rw [hq] at e0; simp at e0
    | cons p ps =>
      rw [hq] at e0
      cases ps with
      | nil => simp at e0
      | cons q qs =>
        simp at e0
        exact ⟨p, q, by rw [e0.2.2], e0.1, e0.2.1⟩
  simp only [evOp] at hr
  split at hr
  · split at hr
    · rename_i b0 off len sz cap _ ty l hl
      rw [M.run_ifb, M.run_chk] at hr
      obtain ⟨h1, h2, hr⟩ := hr
      simp only [Bool.and_eq_true, beq_iff_eq] at h1
      obtain ⟨⟨rfl, h1⟩, h3⟩ := h1
      subst h1
      obtain ⟨⟨m, ys, ry⟩, h4, hr⟩ := run_bind_some hr
      obtain ⟨h5, hr⟩ := (M.run_chk _ _ _).1 hr
      simp only [M.run, Option.some.injEq] at hr
      subst hr
      exact does_cpy ho hc ha ht hu hn (by simpa [Nat.blt_eq] using h3) hS hv1 hl (by simpa using h2) hv2 h4 (of_decide_eq_true h5)
    · simp [M.run] at hr
  · simp [M.run] at hr

theorem go_clr {c : Call} {t e : TypeId} {ty0 : Ty} (ho : o.op = .call c) (hc : c.callee = .builtin .clear) (ht : c.argTypes.toList = [t]) (hu : P.underlying t = some (.slice e)) (hn : sizeT P e = some ty0.size) (h0 : 0 < ty0.size) (hz : zeroT P e ty0 = true) (hS : SimB X β N w (look B)) (hal : ¬ N al) (hx : VRs (All X β (look B)) β N w as (c.args.toList.map ρ)) (hr : (evOp byref call (.clr ty0) as B al).run = some res) :
    Does P o ρ w (Step X β N w (look B) al (updsL (look B) res.writes) res.val) := by
  rcases as with _ | ⟨a, _ | ⟨b, r⟩⟩
  · simp [evOp, M.run] at hr
  rotate_left
  · simp [evOp, M.run] at hr
  obtain ⟨v, e, hv⟩ := VRs.one hx
  obtain ⟨xo, ha, rfl⟩ : ∃ xo, c.args.toList = [xo] ∧ ρ xo = v := by
    cases hq : c.args.toList with
    | nil => rw [hq] at e; simp at e
    | cons p ps =>
      rw [hq] at e
      simp at e
      exact ⟨p, by rw [e.2], e.1⟩
  simp only [evOp] at hr
  split at hr
  · split at hr
    · rename_i b0 off len sz cap _ ty l hl
      split at hr
      · rename_i ht0
        subst ht0
        rw [M.run_ifb, M.run_chk] at hr
        obtain ⟨h1, h2, hr⟩ := hr
        simp only [beq_iff_eq] at h1
        subst h1
        simp only [M.run, Option.some.injEq] at hr
        subst hr
        exact does_clr ho hc ha ht hu hn h0 hz hS hv hl (by simpa using h2)
      · simp [M.run] at hr
    · simp [M.run] at hr
  · simp [M.run] at hr

theorem go_app {c : Call} {t u e : TypeId} {ty : Ty} {by_ : Nat} (ho : o.op = .call c) (hc : c.callee = .builtin .append) (ht : c.argTypes.toList = [t, u]) (hu : P.underlying t = some (.slice e)) (hni : NoInt P u) (hn : sizeT P e = some ty.size) (h0 : 0 < ty.size) (hby : bytesT P e = some by_) (hbp : 0 < by_) (hz : zeroT P e ty = true) (hS : SimB X β N w (look B)) (hal : ¬ N al) (htag : Ctx.tag ty e) (hx : VRs (All X β (look B)) β N w as (c.args.toList.map ρ)) (hr : (evOp byref call (.app ty by_) as B al).run = some res) :
    Does P o ρ w (Step X β N w (look B) al (updsL (look B) res.writes) res.val) := by
  rcases as with _ | ⟨a, _ | ⟨b, _ | ⟨c', r⟩⟩⟩
  · simp [evOp, M.run] at hr
  · simp [evOp, M.run] at hr
  rotate_left
  · simp [evOp, M.run] at hr
  obtain ⟨v1, v2, e0, hv1, hv2⟩ := VRs.two hx
  obtain ⟨xo, yo, ha, rfl, rfl⟩ : ∃ xo yo, c.args.toList = [xo, yo] ∧ ρ xo = v1 ∧ ρ yo = v2 := by
    cases hq : c.args.toList with
    | nil => rw [hq] at e0; simp at e0
    | cons p ps =>
      rw [hq] at e0
      cases ps with
      | nil => simp at e0
      | cons q qs =>
        simp at e0
        exact ⟨p, q, by rw [e0.2.2], e0.1, e0.2.1⟩
  simp only [evOp] at hr
  rw [M.run_ifb] at hr
  obtain ⟨_, hr⟩ := hr
  obtain ⟨⟨ys, ry⟩, h1, hr2⟩ := run_bind_some hr
  clear hr
  have hr := hr2
  clear hr2
  simp only at hr
  split at hr
  · -- nil
    obtain ⟨d1, d2⟩ := does_app_nil ho hc ha ht hu hni hn h0 hby hbp hz hS hal htag (VR.d_iff.1 hv1) hv2 h1
    simp only [M.run] at hr
    cases hys : ys.isEmpty with
    | true =>
      rw [hys] at hr
      simp only [cond_true, M.run, Option.some.injEq] at hr
      subst hr
      exact d1 (List.isEmpty_iff.1 hys)
    | false =>
      rw [hys] at hr
      simp only [cond_false] at hr
      rw [M.run_chk] at hr
      obtain ⟨h2, hr⟩ := hr
      simp only [M.run, Option.some.injEq] at hr
      subst hr
      exact d2 (by intro h; rw [h] at hys; simp at hys) (by simpa using h2)
  · rename_i b0 off len sz cap
    split at hr
    · rename_i t' l live hl
      split at hr
      · rename_i he
        subst he
        rw [M.run_ifb, M.run_chk] at hr
        obtain ⟨h2, h3, hr⟩ := hr
        simp only [beq_iff_eq] at h2
        subst h2
        split at hr
        · rw [M.run_ifb, M.run_chk] at hr
          obtain ⟨h4, h5, hr⟩ := hr
          simp only [Bool.and_eq_true, beq_iff_eq] at h4
          obtain ⟨rfl, rfl⟩ := h4
          have h5' : len = l.length := by simpa using h5
          subst h5'
          simp only [M.run, Option.some.injEq] at hr
          subst hr
          exact does_app_end ho hc ha ht hu hni hn h0 hby hbp hz hS hal htag hv1 hl hv2 h1 (by simpa using h3)
        · rename_i k
          rw [M.run_chk] at hr
          obtain ⟨h4, hr⟩ := hr
          obtain ⟨d1, d2⟩ := does_app_cap ho hc ha ht hu hni hn h0 hby hbp hz hS hal htag hv1 hl (by simpa using h4) hv2 h1 (by simpa using h3)
          simp only [M.run] at hr
          by_cases hk : len + ys.length ≤ k
          · simp only [hk, decide_true, cond_true] at hr
            rw [M.run_ifb] at hr
            obtain ⟨h6, hr⟩ := hr
            simp only [M.run, Option.some.injEq] at hr
            subst hr
            exact d1 hk h6
          · simp only [hk, decide_false, cond_false, M.run, Option.some.injEq] at hr
            subst hr
            exact d2 hk
      · simp [M.run] at hr
    · simp [M.run] at hr
  · simp [M.run] at hr

end
end Go.Ev
namespace Go.Ev
set_option linter.unusedVariables false
set_option linter.unusedSimpArgs false
set_option linter.unusedSectionVars false
variable [Ctx]

theorem asDs_spec : ∀ (as : List AV) (ds : List D), asDs as = some ds → as = ds.map .d
  | [], ds, h => by simp only [asDs, Option.some.injEq] at h; subst h; rfl
  | .d x :: as, ds, h => by
    simp only [asDs] at h
    split at h
    · rename_i ds' hd
      simp only [Option.some.injEq] at h
      subst h
      rw [asDs_spec as ds' hd]; rfl
    · cases h
  | .top :: _, ds, h => by simp [asDs] at h
  | .sr .. :: _, ds, h => by simp [asDs] at h
  | .ptr .. :: _, ds, h => by simp [asDs] at h
  | .eptr .. :: _, ds, h => by simp [asDs] at h
  | .cptr .. :: _, ds, h => by simp [asDs] at h
  | .agg _ :: _, ds, h => by simp [asDs] at h
  | .tup _ :: _, ds, h => by simp [asDs] at h
  | .fn .. :: _, ds, h => by simp [asDs] at h


section
variable {P : Program} {X : Blocks} {β : Map} {N : Nat → Prop} {w : World} {B : Boxes} {al : Nat} {ρ : Operand → Value} {o : Oper} {byref : FuncId → Bool} {call : Caller} {as : List AV} {res : Res}

theorem Step.grow {L : Looks} {val : AV} {v : Value} {w' : World} (hS : SimB X β N w L) (hF : Fr (fun _ => False) w (fun _ => False) w') (hv : VR (All X β L) β N w' val v) : Step X β N w L al L val v w' := by
  have hb : ∀ c, c < w.heap.size → w'.heap[c]? = w.heap[c]? := fun c hc => (hF.blk c hc (fun h => h)).2
  have mv : Mv (All X β L) β N w (All X β L) β N w' := ⟨hF.size, fun c hc hn => ⟨hn, hb c hc⟩, hF.shape, fun b hb => hb, fun b hb => rfl⟩
  refine ⟨β, N, ⟨hS.apart, hS.inj, fun b => ?_, hS.dom, fun c hc => Nat.lt_of_lt_of_le (hS.old c hc) hF.size, hS.tabs' ⟨hF.os, hF.tape, hF.output, hF.size, fun c hc hn => ⟨hn, hb c hc⟩, hF.shape⟩⟩, hv, ⟨hF.os, hF.tape, hF.output, hF.size, fun c hc hn => ⟨hn, hb c hc⟩, hF.shape⟩, fun b hb => ⟨hb, rfl⟩, fun b hb => .inl hb⟩
  by_cases hd : L b = .dead
  · rw [hd]; trivial
  · exact (hS.box b).move mv (hS.dom b hd) fun c hc _ => hb c (hS.lt hd hc)

theorem find_index {fn : Func} (h : fn.name = "internal/bytealg.IndexByteString") : Extern.find fn = some Extern.BytealgIndexByte.indexByte := by
  unfold Extern.find
  simp only [h]
  have e1 : Extern.allGenericRows.lookup "internal/bytealg.IndexByteString" = none := by kernel_rfl
  have e2 : Extern.allTypedRows.lookup "internal/bytealg.IndexByteString" = none := by kernel_rfl
  have e3 : Extern.allRows.lookup "internal/bytealg.IndexByteString" = some Extern.BytealgIndexByte.indexByte := by kernel_rfl
  rw [e1, e2, e3]
  rfl

theorem find_count {fn : Func} (h : fn.name = "internal/bytealg.CountString") : Extern.find fn = some Extern.BytealgCount.count := by
  unfold Extern.find
  simp only [h]
  have e1 : Extern.allGenericRows.lookup "internal/bytealg.CountString" = none := by kernel_rfl
  have e2 : Extern.allTypedRows.lookup "internal/bytealg.CountString" = none := by kernel_rfl
  have e3 : Extern.allRows.lookup "internal/bytealg.CountString" = some Extern.BytealgCount.count := by kernel_rfl
  rw [e1, e2, e3]
  rfl

theorem go_prim {c : Call} {f : FuncId} {g : List D → M D} (ho : o.op = .call c) (hc : c.callee = .value (.func f)) (hρ : ρ (.func f) = .func (.func f) #[] #[]) (hg : externG P f = some g) (hS : SimB X β N w (look B))
    (hx : VRs (All X β (look B)) β N w as (c.args.toList.map ρ)) (hr : (evOp byref call (.prim g) as B al).run = some res) :
    Does P o ρ w (Step X β N w (look B) al (updsL (look B) res.writes) res.val) := by
  simp only [evOp] at hr
  obtain ⟨ds, h1, h2⟩ := run_bind_some hr
  obtain ⟨r, h3, h4⟩ := run_bind_some h2
  simp only [M.run, Option.some.injEq] at h4
  subst h4
  have h1' : asDs as = some ds := by
    cases hh : asDs as with
    | none => rw [hh] at h1; simp [optM, M.run] at h1
    | some x => rw [hh] at h1; simpa [optM, M.run] using h1
  have := asDs_spec _ _ h1'
  subst this
  have hargs : c.args.map ρ = (c.args.toList.map ρ).toArray := by
    apply Array.ext'; simp
  unfold externG at hg
  split at hg
  · rename_i fn hfn
    split at hg
    · rename_i hcond
      simp only [Bool.and_eq_true, Bool.not_eq_true', Option.isNone_iff_eq_none] at hcond
      obtain ⟨⟨hb, hname⟩, hnext⟩ := hcond
      have exec : ∀ (e : Array Value → Sem Value) (v : Value), Extern.find fn = some e → (e (c.args.map ρ)).run P w = .ok v w → (execOp ρ o).run P w = .ok (.value v) w := by
        intro e v he hv
        have := run_callFunc_extern hfn hname (by simpa using hb) hnext he (c.args.map ρ) w
        rw [hv] at this
        simp only [execOp, ho, resolve, hc, hρ, Deferred.ofValue, invoke, Sem.run_bind]
        simpa using this
      split at hg
      · rename_i hn
        simp only [Option.some.injEq] at hg
        subst hg
        unfold indexByteG at h3
        split at h3
        · rename_i s k
          simp only [M.run, Option.some.injEq] at h3
          subst h3
          obtain ⟨u, us, e1, hu, hx⟩ := VRs.cons hx
          obtain ⟨u2, e2, hu2⟩ := VRs.one hx
          subst e2
          obtain ⟨sb, rfl, hsb⟩ := VR.d_iff.1 hu
          have hu2' : u2 = .int .u8 k := VR.d_iff.1 hu2
          subst hu2'
          refine ⟨_, w, .inl (exec _ _ (find_index hn) ?_), Step.same hS (VR.d_iff.2 rfl)⟩
          rw [hargs, e1]
          have := Lib.run_indexByteString (P := P) sb k w
          rw [hsb] at this
          exact this
        · simp [M.run] at h3
      · split at hg
        · rename_i hn
          simp only [Option.some.injEq] at hg
          subst hg
          unfold countByteG at h3
          split at h3
          · rename_i s k
            simp only [M.run, Option.some.injEq] at h3
            subst h3
            obtain ⟨u, us, e1, hu, hx⟩ := VRs.cons hx
            obtain ⟨u2, e2, hu2⟩ := VRs.one hx
            subst e2
            obtain ⟨sb, rfl, hsb⟩ := VR.d_iff.1 hu
            have hu2' : u2 = .int .u8 k := VR.d_iff.1 hu2
            subst hu2'
            refine ⟨_, w, .inl (exec _ _ (find_count hn) ?_), Step.same hS (VR.d_iff.2 rfl)⟩
            rw [hargs, e1]
            have := Lib.run_countString (P := P) sb k w
            rw [hsb] at this
            exact this
          · simp [M.run] at h3
        · cases hg
    · cases hg
  · cases hg

theorem isByte_spec {e : TypeId} (h : isByte P e = true) : P.underlying e = some (.int .u8) := by
  unfold isByte at h
  split at h
  · assumption
  · cases h

theorem go_s2b {s d e : TypeId} {x : Operand} (ho : o.op = .convert s d x) (hs : P.underlying s = some .string) (hd : P.underlying d = some (.slice e)) (he : isByte P e = true) (hS : SimB X β N w (look B))
    (hx : VRs (All X β (look B)) β N w as ([x].map ρ)) (hr : (evOp byref call .s2b as B al).run = some res) :
    Does P o ρ w (Step X β N w (look B) al (updsL (look B) res.writes) res.val) := by
  rcases as with _ | ⟨a, _ | ⟨b, r⟩⟩
  · simp [evOp, M.run] at hr
  rotate_left
  · simp [evOp, M.run] at hr
  obtain ⟨v, e1, hv⟩ := VRs.one hx
  simp at e1
  simp only [evOp] at hr
  split at hr
  · rename_i l
    simp only [M.run, Option.some.injEq] at hr
    subst hr
    obtain ⟨sb, rfl, hsb⟩ := VR.d_iff.1 hv
    have he' := isByte_spec he
    have hrun := run_bytes_of_string (P := P) w s d e sb hs hd he'
    generalize hcap : grownCap w sb.size 0 e = cap at hrun
    have hge : sb.size ≤ cap := by rw [← hcap]; exact grownCap_ge w sb.size 0 e
    generalize hw' : w.drew.alloc (.cells (bytesRow sb cap) e ((bytesRow sb cap).size, (bytesRow sb cap).size + 1)) = w' at hrun
    have hheap : w'.heap = w.heap.push (.cells (bytesRow sb cap) e ((bytesRow sb cap).size, (bytesRow sb cap).size + 1)) := by rw [← hw']; rfl
    have hold : ∀ c, c < w.heap.size → w'.heap[c]? = w.heap[c]? := by
      intro c hc
      rw [hheap, Array.getElem?_push, if_neg (by omega)]
    have hnew : w'.heap[w.heap.size]? = some (.cells (bytesRow sb cap) e ((bytesRow sb cap).size, (bytesRow sb cap).size + 1)) := by
      rw [hheap, Array.getElem?_push, if_pos rfl]
    have hF : Fr (fun _ => False) w (fun _ => False) w' := by
      refine ⟨by rw [← hw']; rfl, by rw [← hw']; rfl, by rw [← hw']; rfl, by rw [hheap, Array.size_push]; omega, fun c hc _ => ⟨fun h => h, hold c hc⟩, fun c arr t fz ha => ⟨arr, fz, ?_, rfl⟩⟩
      rw [hold c (heap_lt ha)]; exact ha
    have hlen : (l.map fun c => ((c.toNat : Nat) : Int)).length = sb.size := by
      rw [List.length_map, ← hsb, Array.length_toList]; rfl
    have notOwn : ¬ All X β (look B) w.heap.size := by
      rintro (h | ⟨b, h1, h2⟩)
      · exact absurd (hS.old _ h) (by omega)
      · exact absurd (hS.lt (fun e => by rw [e] at h1; simp [Box.live] at h1) h2) (by omega)
    refine ⟨.slice (some ⟨w.heap.size, 0, none⟩) sb.size cap, w', .inl ?_, Step.grow hS hF (VR.d_iff.2 ?_)⟩
    · simp only [execOp, ho, e1, Sem.run_bind, hrun]
      rfl
    · refine RD.sl w.heap.size 0 cap (by rw [hlen]) (by rw [hlen]; exact hge) (by rw [hheap, Array.size_push]; omega) notOwn fun i hi => ?_
      refine RD.int ?_
      have hi' : i < sb.data.size := by rw [hlen] at hi; exact hi
      have hc := bytesRow_at sb cap i hi'
      rw [show (⟨w.heap.size, 0 + i * (Ty.int IntKind.u8).size + 0, none⟩ : Addr) = ⟨w.heap.size, i, none⟩ by simp [Ty.size], cell_of_arr hnew, hc]
      subst hsb
      simp
  · simp [M.run] at hr

theorem push_all : ∀ (ns : List Int) (r : ByteArray), (ns.foldl (fun r n => r.push (UInt8.ofNat n.toNat)) r).data.toList = r.data.toList ++ ns.map fun (n : Int) => UInt8.ofNat n.toNat
  | [], r => by simp
  | n :: ns, r => by
    rw [List.foldl_cons, push_all ns]
    simp [ByteArray.push]

theorem slice_of {Y : Blocks} {a : AV} {t : Ty} {ys : List t.den} {rs : List Nat} {v : Value} (hr : (content B t a).run = some (ys, rs)) (hn : a.isStr = false) (hv : VR Y β N w a v) : ∃ q n c, v = .slice q n c := by
  unfold content at hr
  split at hr
  · exact ⟨_, _, _, VR.d_iff.1 hv⟩
  · rename_i t' l
    have h : RD Y w (.sl t') l (fun _ => some v) := VR.d_iff.1 hv
    obtain ⟨v', e, h⟩ := RD.slice h
    cases e
    rcases h with ⟨_, _, rfl, _⟩ | ⟨c, off, cap, rfl, _⟩ <;> exact ⟨_, _, _, rfl⟩
  · simp [AV.isStr] at hn
  · obtain ⟨_, _, h⟩ := VR.sr_iff.1 hv
    rcases h with ⟨_, rfl, _⟩ | ⟨c, k, _, rfl, _⟩ <;> exact ⟨_, _, _, rfl⟩
  · simp [M.run] at hr

theorem go_b2s {s d e : TypeId} {x : Operand} (ho : o.op = .convert s d x) (hs : P.underlying s = some (.slice e)) (hd : P.underlying d = some .string) (he : isByte P e = true) (hS : SimB X β N w (look B))
    (hx : VRs (All X β (look B)) β N w as ([x].map ρ)) (hr : (evOp byref call .b2s as B al).run = some res) :
    Does P o ρ w (Step X β N w (look B) al (updsL (look B) res.writes) res.val) := by
  rcases as with _ | ⟨a, _ | ⟨b, r⟩⟩
  · simp [evOp, M.run] at hr
  rotate_left
  · simp [evOp, M.run] at hr
  obtain ⟨v, e1, hv⟩ := VRs.one hx
  simp at e1
  simp only [evOp] at hr
  obtain ⟨h0, hr⟩ := (M.run_ifb _ _ _).1 hr
  obtain ⟨⟨ys, rs⟩, h1, h2⟩ := run_bind_some hr
  simp only [M.run, Option.some.injEq] at h2
  subst h2
  obtain ⟨q, n, c, rfl⟩ := slice_of h1 (by simpa using h0) hv
  obtain ⟨us, hl, hlen, hcells, hRD, _⟩ := content_sound (P := P) hS h1 hv (by simp [Ty.size])
  have hn : n = ys.length := by
    have := hlen w
    simp only [Builtin.lenOf] at this
    have h : (Result.ok n w : Result Nat) = .ok ys.length w := this
    cases h; rfl
  subst hn
  have hus : us = (show List Int from ys).map (Value.int .u8) := by
    apply List.ext_getElem?
    intro i
    by_cases hi : i < ys.length
    · have h := hRD i hi
      generalize hg : (fun j => us[i * (Ty.int IntKind.u8).size + j]?) = g at h
      cases h with
      | int h =>
        rw [← hg] at h
        have h' : us[i]? = some (.int .u8 ys[i]) := by simpa [Ty.size] using h
        rw [h', List.getElem?_map]
        have : (show List Int from ys)[i]? = some ys[i] := List.getElem?_eq_getElem hi
        rw [this]; rfl
    · have h1 : us.length = ys.length := by simpa [Ty.size] using hl
      rw [List.getElem?_eq_none (by omega), List.getElem?_eq_none (by simpa using hi)]
  have he' := isByte_spec he
  have hconv := run_convert_bytes_string (P := P) w s d e q ys.length c hs he' hd
  have hfc := hcells ys.length w (Nat.le_refl _) rfl
  have htake : us.take (ys.length * (Ty.int IntKind.u8).size) = us := List.take_of_length_le (by rw [hl]; exact Nat.le_refl _)
  rw [htake] at hfc
  have hstr : ∃ sb : ByteArray, (Conv.bytesToString (.slice q ys.length c)).run P w = .ok (.string sb) w ∧ sb.data.toList = (show List Int from ys).map fun (n : Int) => UInt8.ofNat n.toNat := by
    cases q with
    | none =>
      have h : (Result.ok (#[] : Array Value) w : Result (Array Value)) = .ok us.toArray w := hfc
      have hu : us = [] := by
        injection h with h _
        simpa using congrArg Array.toList h.symm
      have hy : ys = [] := by
        rw [hu] at hus
        have := congrArg List.length hus
        simp at this
        exact List.eq_nil_of_length_eq_zero this.symm
      subst hy
      exact ⟨.empty, rfl, rfl⟩
    | some ad =>
      have hload : (loadCells ad ys.length).run P w = .ok ((show List Int from ys).map (Value.int .u8)).toArray w := by
        have h : (loadCells ad (ys.length * (Ty.int IntKind.u8).size)).run P w = .ok us.toArray w := hfc
        rw [← hus]
        simpa [Ty.size] using h
      exact ⟨_, run_bytesToString w ad ys.length c _ hload, by rw [push_all]; rfl⟩
  obtain ⟨sb, hsb1, hsb2⟩ := hstr
  refine ⟨.string sb, w, .inl ?_, Step.same hS (VR.d_iff.2 ⟨sb, rfl, hsb2⟩)⟩
  simp only [execOp, ho, e1, Sem.run_bind, hconv, hsb1]
  rfl

end
end Go.Ev
namespace Go.Ev
set_option linter.unusedVariables false
set_option linter.unusedSimpArgs false
set_option linter.unusedSectionVars false
variable [Ctx]

theorem SimB.retire {X : Blocks} {β : Map} {N : Nat → Prop} {w w' : World} {L : Looks} {b c : Nat} {arr : Array Value} {e : TypeId} {fz fz' : Nat × Nat}
    (h : SimB X β N w L) (hl : (L b).live = true) (hc : β b = some c) (ha : w.heap[c]? = some (.cells arr e fz)) (ha' : w'.heap[c]? = some (.cells arr e fz'))
    (hz : w'.heap.size = w.heap.size) (hos : w'.os = w.os) (htp : w'.tape = w.tape) (hou : w'.output = w.output) (hoth : ∀ k, k ≠ c → w'.heap[k]? = w.heap[k]?) :
    SimB X β N w' (updL L b .dead) ∧ Fr (Own β L) w (Own β (updL L b .dead)) w' := by
  have hown : ∀ k, Own β (updL L b .dead) k → Own β L k := by
    rintro k ⟨b', h1, h2⟩
    by_cases eb : b' = b
    · subst eb; simp [updL, Box.live] at h1
    · exact ⟨b', by simpa [updL, eb] using h1, h2⟩
  have hf : Fr (Own β L) w (Own β (updL L b .dead)) w' := by
    refine ⟨hos, htp, hou, by omega, fun k hk ho => ⟨fun ho' => ho (hown k ho'), hoth k fun e => ho (e ▸ ⟨b, hl, hc⟩)⟩, fun k a q fz2 hk => ?_⟩
    by_cases ek : k = c
    · subst ek
      rw [ha] at hk
      cases hk
      exact ⟨arr, _, ha', rfl⟩
    · exact ⟨a, fz2, by rw [hoth k ek]; exact hk, rfl⟩
  have mv := mv_of (X := X) hf (β' := β) (N := N) (N' := N) fun b hb => ⟨hb, rfl⟩
  refine ⟨⟨fun k ho => h.apart k (hown k ho), ?_, ?_, ?_, fun k hk => ?_, h.tabs' hf⟩, hf⟩
  · intro b1 b2 k l1 l2 e1 e2
    have g : ∀ b1, (updL L b .dead b1).live = true → (L b1).live = true := by
      intro b1 l1
      by_cases eb : b1 = b
      · subst eb; simp [updL, Box.live] at l1
      · simpa [updL, eb] using l1
    exact h.inj b1 b2 k (g b1 l1) (g b2 l2) e1 e2
  · intro b1
    by_cases eb : b1 = b
    · subst eb
      rw [show updL L b1 .dead b1 = .dead from if_pos rfl]
      trivial
    · rw [show updL L b .dead b1 = L b1 from if_neg eb]
      by_cases hd : L b1 = .dead
      · rw [hd]; trivial
      · refine (h.box b1).move mv (h.dom b1 hd) fun k hk hne => hoth k fun ek => ?_
        subst ek
        cases hq : (L b1).live with
        | true => exact eb (h.inj b1 b k hq hl hk hc)
        | false =>
          have hbx := h.box b1
          cases hL : L b1 with
          | dead => exact hne hL
          | cells l => rw [hL] at hq; simp [Box.live] at hq
          | keys t l => rw [hL] at hq; simp [Box.live] at hq
          | arr t l m =>
            rw [hL] at hq hbx
            obtain ⟨_, hbx⟩ := hbx
            rcases hbx with ⟨g1, _⟩ | ⟨c', a1, e1, g1, g2, g3, g4, _⟩
            · rw [hk] at g1; cases g1
            · rw [hk] at g1
              cases g1
              exact g4.1 (by simpa [Box.live] using hq) (.inr ⟨b, hl, hc⟩)
  · intro b1 hd
    by_cases eb : b1 = b
    · subst eb; simp [updL] at hd
    · exact h.dom b1 (by simpa [updL, eb] using hd)
  · have := h.old k hk
    omega

section
variable {P : Program} {X : Blocks} {β : Map} {N : Nat → Prop} {w : World} {B : Boxes} {al : Nat} {ρ : Operand → Value} {o : Oper} {byref : FuncId → Bool} {call : Caller} {as : List AV} {res : Res}

theorem go_allocT {e : TypeId} {zs : List AV} (ho : o.op = .alloc e) (hz : zeroAVs P e = some zs) (hT : headNil zs = true) (hS : SimB X β N w (look B)) (hal : ¬ N al) (hx : VRs (All X β (look B)) β N w as (([] : List Operand).map ρ)) (hr : (evOp byref call (.allocT e zs) as B al).run = some res) :
    Does P o ρ w (Step X β N w (look B) al (updsL (look B) res.writes) res.val) := by
  rcases as with _ | ⟨a, r⟩
  rotate_left
  · simp [evOp, M.run] at hr
  simp only [evOp, M.run, Option.some.injEq] at hr
  subst hr
  obtain ⟨i, z, h1, h2, h3⟩ := zeroAVs_run hz
  obtain ⟨h4, h5⟩ := ofCells_VRs (X := All X β (look B)) (β := β) (N := N) (w := w) _ _ h3
  obtain ⟨zs', rfl⟩ : ∃ zs', zs = .d .nilp :: zs' := by
    unfold headNil at hT
    split at hT
    · exact ⟨_, rfl⟩
    · cases hT
  obtain ⟨v0, vs, e0, hv0, hvs⟩ := VRs.cons h4
  have hv0' : v0 = .pointer none := VR.d_iff.1 hv0
  subst hv0'
  refine ⟨.pointer (some ⟨w.heap.size, 0, none⟩), w.alloc (.cells z.cells e), .inl (by simp [execOp, ho, Instr.alloc, newVar, newRow, zeroValue, typeInfo, h1, h2]), ?_⟩
  refine Step.new hS hal (by simp) fun β' N' mv e1 e2 => ⟨⟨w.heap.size, z.cells, e, e1, heap_new _ _, ?_, ?_⟩, VR.ptr_iff.2 ⟨e2, _, e1, rfl⟩⟩
  · have := VRs.len _ _ h4
    simpa using this.symm
  · intro j a v ha hv'
    have hv2 : z.cells.toList[j]? = some v := by simpa using hv'
    refine ⟨?_, h5 v (List.mem_of_getElem? hv2)⟩
    cases j with
    | zero =>
      simp only [List.drop_succ_cons, List.drop_zero, List.getElem?_cons_zero, Option.some.injEq] at ha
      subst ha
      rw [e0] at hv2
      simp only [List.getElem?_cons_zero, Option.some.injEq] at hv2
      subst hv2
      exact VR.snil_iff.2 ⟨e2, rfl, _, z.cells, (0, 0), e1, heap_new _ _⟩
    | succ j =>
      refine (VRs.get _ _ h4 (j + 1) a v ?_ hv2).move mv
      simpa using ha

theorem run_equalIn_nili (d : Nat) (t : TypeId) {ms : Array (String × TypeId)} (h : P.underlying t = some (.interface ms)) (v : Value) (hv : v = .nilIface ∨ ∃ T u, v = .iface T u) :
    (Op.equalIn (d + 1) t v .nilIface).run P w = .ok (match v with | .nilIface => true | _ => false) w := by
  rcases hv with rfl | ⟨T, u, rfl⟩ <;> simp [Op.equalIn, run_underlying h]

theorem run_equal_nili (t : TypeId) {ms : Array (String × TypeId)} (h : P.underlying t = some (.interface ms)) (v : Value) (hv : v = .nilIface ∨ ∃ T u, v = .iface T u) :
    (Op.equal t v .nilIface).run P w = .ok (match v with | .nilIface => true | _ => false) w := run_equalIn_nili 9999 t h v hv

theorem go_isnili {bop : BinOp} {ng : Bool} {t yt : TypeId} {ms : Array (String × TypeId)} {x y : Operand} (ho : o.op = .binOp bop t x y yt) (hop : isNeg bop = some ng) (hy : isConstNili y = true) (hu : P.underlying t = some (.interface ms)) (hρ : ∀ u, ρ (.const u) = u) (hS : SimB X β N w (look B)) (hal : ¬ N al)
    (hx : VRs (All X β (look B)) β N w as ([x].map ρ)) (hr : (evOp byref call (.isnili ng) as B al).run = some res) :
    Does P o ρ w (Step X β N w (look B) al (updsL (look B) res.writes) res.val) := by
  rcases as with _ | ⟨a, _ | ⟨b, r⟩⟩
  · simp [evOp, M.run] at hr
  rotate_left
  · simp [evOp, M.run] at hr
  obtain ⟨v, e1, hv⟩ := VRs.one hx
  simp at e1
  obtain rfl : y = .const .nilIface := by
    unfold isConstNili at hy
    split at hy
    · rfl
    · cases hy
  have key : ∀ r : Bool, (Op.equal t v .nilIface).run P w = .ok r w → (v = .nilIface ∨ ∃ T u, v = .iface T u) → (evOp byref call (.isnili ng) [a] B al).run = some res → res = ⟨.d (.bool (cond ng (!r) r)), [], []⟩ →
      Does P o ρ w (Step X β N w (look B) al (updsL (look B) res.writes) res.val) := by
    rintro r he hv' _ rfl
    refine does_eq ho hop hS ?_ ?_
    · rw [hρ, e1]
      rcases hv' with rfl | ⟨T, u, rfl⟩ <;> cases bop <;> simp [isNeg] at hop <;> cases x <;> rfl
    · rw [hρ, e1]
      rcases hv' with rfl | ⟨T, u, rfl⟩ <;> cases bop <;> simp [isNeg] at hop <;> subst hop <;> simp [binOp, Sem.run_bind, he]
  have hr' := hr
  simp only [evOp] at hr
  split at hr
  · simp only [M.run, Option.some.injEq] at hr
    have : v = .nilIface := VR.d_iff.1 hv
    subst this
    exact key true (run_equal_nili t hu _ (.inl rfl)) (.inl rfl) hr' (by rw [← hr]; cases ng <;> rfl)
  · simp only [M.run, Option.some.injEq] at hr
    obtain ⟨u, rfl⟩ := VR.ifc_iff.1 hv
    exact key false (run_equal_nili t hu _ (.inr ⟨_, _, rfl⟩)) (.inr ⟨_, _, rfl⟩) hr' (by rw [← hr]; cases ng <;> rfl)
  · simp [M.run] at hr

theorem go_sdata {c : Call} (ho : o.op = .call c) (hc : c.callee = .builtin .unsafeSliceData) (hS : SimB X β N w (look B)) (hal : ¬ N al) (hx : VRs (All X β (look B)) β N w as (c.args.toList.map ρ)) (hr : (evOp byref call .sdata as B al).run = some res) :
    Does P o ρ w (Step X β N w (look B) al (updsL (look B) res.writes) res.val) := by
  rcases as with _ | ⟨a, _ | ⟨b, r⟩⟩
  · simp [evOp, M.run] at hr
  rotate_left
  · simp [evOp, M.run] at hr
  obtain ⟨v, e1, hv⟩ := VRs.one hx
  have hargs : c.args.map ρ = #[v] := by
    apply Array.ext'; simpa using e1
  have exec : ∀ u, (Builtin.unsafeSliceData_ c.argTypes o.type #[v]).run P w = .ok u w → (execOp ρ o).run P w = .ok (.value u) w := by
    intro u h
    simp [execOp, ho, resolve, hc, hargs, invoke, builtin, h]
  simp only [evOp] at hr
  split at hr
  · simp only [M.run, Option.some.injEq] at hr
    subst hr
    have : v = .slice none 0 0 := VR.d_iff.1 hv
    subst this
    exact ⟨_, w, .inl (exec _ (Lib.run_unsafeSliceData_nil _ _ _ _ _)), Step.same hS (VR.d_iff.2 rfl)⟩
  · rename_i bb off len cap
    obtain ⟨h1, h2⟩ := (M.run_chk _ _ _).1 hr
    simp only [M.run, Option.some.injEq] at h2
    subst h2
    obtain ⟨hN, _, h⟩ := VR.sr_iff.1 hv
    rcases h with ⟨_, _, _, rfl, _⟩ | ⟨cc, k, hβ, rfl, hk, _⟩
    · simp at h1
    · have hne : len ≠ 0 := by simpa using h1
      exact ⟨_, w, .inl (exec _ (Lib.run_unsafeSliceData_row _ _ _ _ _ _ (by omega))), Step.same hS (VR.eptr_iff.2 ⟨hN, cc, hβ, rfl⟩)⟩
  · simp [M.run] at hr

theorem u8_of {n : Int} (h0 : 0 ≤ n) (h1 : n < 256) : ((UInt8.ofNat n.toNat).toNat : Int) = n := by
  have : n.toNat < 256 := by omega
  simp [UInt8.toNat_ofNat', Nat.mod_eq_of_lt this]
  omega

theorem go_ustr [TagOK P] {c : Call} {t u : TypeId} (ho : o.op = .call c) (hc : c.callee = .builtin .unsafeString) (ht : c.argTypes.toList = [t, u]) (hu : ustrT P t u = true) (hS : SimB X β N w (look B)) (hal : ¬ N al) (hx : VRs (All X β (look B)) β N w as (c.args.toList.map ρ)) (hr : (evOp byref call .ustr as B al).run = some res) :
    Does P o ρ w (Step X β N w (look B) al (updsL (look B) res.writes) res.val) := by
  have ht' : c.argTypes = #[t, u] := by rw [← Array.toArray_toList (xs := c.argTypes), ht]
  obtain ⟨e, hp, he, hcell⟩ : ∃ e, P.underlying t = some (.pointer e) ∧ elemTy P e = some (.int .u8) ∧ P.cellsOf e = 1 := by
    unfold ustrT at hu
    split at hu
    · rename_i e hp
      simp only [Bool.and_eq_true, decide_eq_true_eq] at hu
      exact ⟨e, hp, hu.1.1, hu.1.2⟩
    · cases hu
  rcases as with _ | ⟨p, _ | ⟨q, _ | ⟨q2, r⟩⟩⟩
  · simp [evOp, M.run] at hr
  · simp [evOp, M.run] at hr
  rotate_left
  · simp [evOp, M.run] at hr
  have hq : ∃ k n, q = .d (.int k n) := by
    cases q with
    | d x => cases x <;> first | exact ⟨_, _, rfl⟩ | (simp [evOp, M.run] at hr)
    | _ => simp [evOp, M.run] at hr
  obtain ⟨k, n, rfl⟩ := hq
  simp only [evOp] at hr
  obtain ⟨v0, v1, e1, hv0, hv1⟩ := VRs.two hx
  have hargs : c.args.map ρ = #[v0, v1] := by
    apply Array.ext'; simpa using e1
  have hv1' : v1 = .int k n := VR.d_iff.1 hv1
  subst hv1'
  obtain ⟨hk, hr2⟩ := (M.run_ifb _ _ _).1 hr
  clear hr
  have hr := hr2
  clear hr2
  have hk' : k = .i64 := of_decide_eq_true hk
  subst hk'
  have exec : ∀ r w', (Builtin.unsafeString_ #[t, u] o.type #[v0, .int .i64 n]).run P w = .ok r w' → (execOp ρ o).run P w = .ok (.value r) w' := by
    intro r w' h
    simp [execOp, ho, resolve, hc, hargs, ht', invoke, builtin, h]
  split at hr
  · obtain ⟨h0, h2⟩ := (M.run_chk _ _ _).1 hr
    simp only [M.run, Option.some.injEq] at h2
    subst h2
    have hn : n = 0 := of_decide_eq_true h0
    subst hn
    have : v0 = .pointer none := VR.d_iff.1 hv0
    subst this
    exact ⟨_, w, .inl (exec _ _ (Lib.run_unsafeString_none _ _ _ _ _)), Step.same hS (VR.d_iff.2 ⟨_, rfl, rfl⟩)⟩
  · rename_i b
    have hL : ∃ l, look B b = .arr (.int .u8) l true := by
      cases hL : look B b with
      | dead => simp [hL, M.run] at hr
      | cells l => simp [hL, M.run] at hr
      | keys t l => simp [hL, M.run] at hr
      | arr t l m =>
        cases t with
        | int k => cases k <;> cases m <;> first | exact ⟨_, rfl⟩ | (simp [hL, M.run] at hr)
        | _ => simp [hL, M.run] at hr
    obtain ⟨l, hL⟩ := hL
    · rw [hL] at hr
      simp only at hr
      obtain ⟨h0, h2⟩ := (M.run_chk _ _ _).1 hr
      simp only [M.run, Option.some.injEq] at h2
      subst h2
      simp only [Bool.and_eq_true, decide_eq_true_eq, Bool.not_eq_true', List.all_eq_true] at h0
      obtain ⟨⟨⟨hn, hne⟩, h63⟩, hall⟩ := h0
      obtain ⟨_, cc, hβ, hv⟩ := VR.eptr_iff.1 hv0
      simp only [Nat.zero_mul, Nat.zero_add] at hv
      subst hv
      have hb := hS.box b
      rw [hL] at hb
      obtain ⟨_, hb⟩ := hb
      rcases hb with ⟨g1, _⟩ | ⟨c', arr, e', g1, g2, g3, g4, g5⟩
      · rw [hβ] at g1; cases g1
      rw [hβ] at g1; cases g1
      have hee : e' = e := TagOK.byte (P := P) e e' he g4.2
      subst hee
      have hlen : ((show List Int from l).map fun n => UInt8.ofNat n.toNat).length = l.length := by simp
      have hrun := Lib.run_unsafeString_row (P := P) w t u o.type e' hp hcell cc arr.size (by simp [World.shape?, g2]) ((show List Int from l).map fun n => UInt8.ofNat n.toNat) (by
          intro h0
          have := congrArg List.length h0
          rw [hlen] at this
          cases l with
          | nil => simp at hne
          | cons a l => simp at this) (by rw [hlen]; simpa [Ty.size] using g3) (by rw [hlen]; exact h63) (by
          intro j x hj
          have hjl : j < l.length := by
            have := (List.getElem?_eq_some_iff.1 hj).1
            rwa [hlen] at this
          have hRD := g5 j hjl
          have hx : x = UInt8.ofNat (show Int from l[j]).toNat := by
            rw [List.getElem?_map] at hj
            have : (show List Int from l)[j]? = some l[j] := List.getElem?_eq_getElem hjl
            rw [this] at hj
            simpa using hj.symm
          have hin := hall l[j] (List.getElem_mem hjl)
          generalize hg : (fun q => arr[j * (Ty.int IntKind.u8).size + q]?) = g at hRD
          cases hRD with
          | int h =>
            rw [← hg] at h
            have h' : arr[j]? = some (.int .u8 l[j]) := by simpa [Ty.size] using h
            have hc2 : w.cell? ((⟨cc, 0, none⟩ : Addr).add j) = arr[j]? := by
              have := cell_of_arr (w := w) (j := j) g2
              cases j with
              | zero => exact this
              | succ j => simpa [Addr.add] using this
            rw [hc2, h', hx, u8_of hin.1 hin.2])
      rw [hlen, ← hn] at hrun
      have hfr : (w.freeze ⟨cc, 0, none⟩ l.length).heap[cc]? = some (.cells arr e' (0, l.length)) := by
        have hne0 : l.length ≠ 0 := by
          cases l with
          | nil => simp at hne
          | cons a l => simp
        simp [World.freeze, hne0, Array.getElem?_modify, g2]
      have hoth : ∀ k, k ≠ cc → (w.freeze ⟨cc, 0, none⟩ l.length).heap[k]? = w.heap[k]? := by
        intro k hk
        unfold World.freeze
        split
        · rfl
        · simp [Array.getElem?_modify, Ne.symm hk]
      have hother : (w.freeze ⟨cc, 0, none⟩ l.length).heap.size = w.heap.size ∧ (w.freeze ⟨cc, 0, none⟩ l.length).os = w.os ∧ (w.freeze ⟨cc, 0, none⟩ l.length).tape = w.tape ∧ (w.freeze ⟨cc, 0, none⟩ l.length).output = w.output := by
        unfold World.freeze
        split <;> simp
      obtain ⟨r1, r2⟩ := hS.retire (by rw [hL]; rfl) hβ g2 hfr hother.1 hother.2.1 hother.2.2.1 hother.2.2.2 hoth
      refine ⟨_, _, .inl (exec _ _ hrun), β, N, ?_, ?_, ?_, fun b hb => ⟨hb, rfl⟩, fun b hb => .inl hb⟩
      · exact r1
      · exact VR.d_iff.2 ⟨_, rfl, rfl⟩
      · exact r2
  · simp [M.run] at hr


theorem go_capv {c : Call} {t e : TypeId} (ho : o.op = .call c) (hc : c.callee = .builtin .cap) (ht : c.argTypes[0]? = some t) (hu : P.underlying t = some (.slice e)) (hS : SimB X β N w (look B)) (hal : ¬ N al) (hx : VRs (All X β (look B)) β N w as (c.args.toList.map ρ)) (hr : (evOp byref call .capv as B al).run = some res) :
    Does P o ρ w (Step X β N w (look B) al (updsL (look B) res.writes) res.val) := by
  rcases as with _ | ⟨a, _ | ⟨b, r⟩⟩
  · simp [evOp, M.run] at hr
  rotate_left
  · simp [evOp, M.run] at hr
  obtain ⟨v, e1, hv⟩ := VRs.one hx
  have hargs : c.args.map ρ = #[v] := by
    apply Array.ext'; simpa using e1
  have exec : ∀ q n k, v = .slice q n k → (execOp ρ o).run P w = .ok (.value (.int .i64 k)) w := by
    rintro q n k rfl
    simp [execOp, ho, resolve, hc, hargs, invoke, builtin, Builtin.cap_, goInt, ht, run_underlying hu]
  simp only [evOp] at hr
  split at hr
  · simp only [M.run, Option.some.injEq] at hr
    subst hr
    rename_i b off len sz k
    obtain ⟨hN, hs, h⟩ := VR.sr_iff.1 hv
    rcases h with ⟨_, _, _, _, h⟩ | ⟨cc, k', _, hv', _, hkk, _⟩
    · cases h
    · have := hkk k rfl
      subst this
      exact ⟨_, w, .inl (exec _ _ _ hv'), Step.same hS (VR.d_iff.2 rfl)⟩
  · simp only [M.run, Option.some.injEq] at hr
    subst hr
    have : v = .slice none 0 0 := VR.d_iff.1 hv
    exact ⟨_, w, .inl (exec _ _ _ this), Step.same hS (VR.d_iff.2 rfl)⟩
  · simp [M.run] at hr

theorem find_overlaps {fn : Func} (ho : fn.origin = "slices.overlaps") (h1 : Extern.allGenericRows.lookup fn.name = none) (h2 : Extern.allTypedRows.lookup fn.name = none) (h3 : Extern.allRows.lookup fn.name = none) :
    Extern.find fn = some (Extern.SlicesOverlaps.overlaps fn.params fn.resultTypes) := by
  unfold Extern.find
  simp only [h1, h2, h3, ho]
  have e1 : Extern.allGenericRows.lookup "slices.overlaps" = none := by kernel_rfl
  have e2 : Extern.allTypedRows.lookup "slices.overlaps" = some Extern.SlicesOverlaps.overlaps := by kernel_rfl
  rw [e1, e2]
  rfl

theorem liveArr_spec {B : Boxes} {b : Nat} (h : (match look B b with | .arr _ _ true => true | _ => false) = true) : ∃ t l, look B b = .arr t l true := by
  cases hL : look B b with
  | dead => rw [hL] at h; cases h
  | cells l => rw [hL] at h; cases h
  | keys t l => rw [hL] at h; cases h
  | arr t l m =>
    rw [hL] at h
    cases m with
    | false => cases h
    | true => exact ⟨t, l, rfl⟩

theorem go_ovl {c : Call} {f : FuncId} (ho : o.op = .call c) (hc : c.callee = .value (.func f)) (hρ : ρ (.func f) = .func (.func f) #[] #[]) (hg : ovlF P f = true) (hS : SimB X β N w (look B))
    (hx : VRs (All X β (look B)) β N w as (c.args.toList.map ρ)) (hr : (evOp byref call .ovl as B al).run = some res) :
    Does P o ρ w (Step X β N w (look B) al (updsL (look B) res.writes) res.val) := by
  rcases as with _ | ⟨p, _ | ⟨q, _ | ⟨q2, r⟩⟩⟩
  · simp [evOp, M.run] at hr
  · simp [evOp, M.run] at hr
  rotate_left
  · simp [evOp, M.run] at hr
  obtain ⟨v0, v1, e1, hv0, hv1⟩ := VRs.two hx
  have hargs : c.args.map ρ = #[v0, v1] := by
    apply Array.ext'; simpa using e1
  simp only [evOp] at hr
  split at hr
  rotate_left
  · simp [M.run] at hr
  rename_i b off la sz cap b' off' lb sz' cap'
  obtain ⟨h1, hr1⟩ := (M.run_ifb _ _ _).1 hr
  obtain ⟨h2, hr2⟩ := (M.run_chk _ _ _).1 hr1
  simp only [M.run, Option.some.injEq] at hr2
  subst hr2
  simp only [Bool.and_eq_true, Bool.not_eq_true', beq_eq_false_iff_ne, decide_eq_false_iff_not] at h1 h2
  obtain ⟨⟨hne, hl1⟩, hl2⟩ := h1
  obtain ⟨t1, l1, hL1⟩ := liveArr_spec hl1
  obtain ⟨t2, l2, hL2⟩ := liveArr_spec hl2
  obtain ⟨hN0, hs0, h0⟩ := VR.sr_iff.1 hv0
  obtain ⟨hN1, hs1, h1⟩ := VR.sr_iff.1 hv1
  have hb1 := hS.box b
  rw [hL1] at hb1
  obtain ⟨_, hb1⟩ := hb1
  have hb2 := hS.box b'
  rw [hL2] at hb2
  obtain ⟨_, hb2⟩ := hb2
  rcases h0 with ⟨_, _, _, h0, _⟩ | ⟨ca, ka, hβa, rfl, hka, _, arr1, e1', fz1, ha1, hsz1⟩
  · exact absurd h0 h2.1
  rcases h1 with ⟨_, _, _, h1, _⟩ | ⟨cb, kb, hβb, rfl, hkb, _, arr2, e2', fz2, ha2, hsz2⟩
  · exact absurd h1 h2.2
  rcases hb1 with ⟨g, _⟩ | ⟨c1, a1, ee1, g1, g2, _⟩
  · rw [hβa] at g; cases g
  rw [hβa] at g1; cases g1
  rcases hb2 with ⟨g, _⟩ | ⟨c2, a2, ee2, k1, k2, _⟩
  · rw [hβb] at g; cases g
  rw [hβb] at k1; cases k1
  have hcc : ca ≠ cb := fun e => hne (hS.inj b b' ca (by rw [hL1]; rfl) (by rw [hL2]; rfl) hβa (e ▸ hβb))
  unfold ovlF at hg
  split at hg
  rotate_left
  · cases hg
  rename_i fn hfn
  simp only [Bool.and_eq_true, Bool.not_eq_true', decide_eq_true_eq, Option.isNone_iff_eq_none] at hg
  obtain ⟨⟨⟨⟨⟨⟨⟨hbody, horig⟩, hname⟩, hnext⟩, n1⟩, n2⟩, n3⟩, hp⟩ := hg
  split at hp
  rotate_left
  · cases hp
  rename_i tt uu hpar
  simp only [Bool.and_eq_true, beq_iff_eq] at hp
  obtain ⟨rfl, hp⟩ := hp
  split at hp
  rotate_left
  · cases hp
  rename_i e hu
  split at hp
  rotate_left
  · cases hp
  rename_i size hsize
  obtain ⟨inf, hi1, hi2⟩ := sizeT_info hsize
  have hpa : fn.params = #[tt, tt] := by rw [← Array.toArray_toList (xs := fn.params), hpar]
  have hz : ∀ w, (Go.sizeOf e).run P w = .ok size w := fun w => by simp [sizeOf, typeInfo, hi1, hi2]
  have hka0 : arr2.size ≠ 0 := by
    have : 0 < (off' + kb) * sz' := Nat.mul_pos (by omega) hs1
    omega
  have hap := Lib.run_overlaps_apart (P := P) w tt (fn.resultTypes.getD 0 0) e hu size hz ⟨ca, off * sz, none⟩ ⟨cb, off' * sz', none⟩ la ka lb kb hcc e1' e2' arr1.size arr2.size (by simp [World.shape?, ha1]) (by simp [World.shape?, ha2]) hka0
    (by rw [g2] at ha1; cases ha1; simp [World.frozen?, g2]) (by rw [g2] at ha1; cases ha1; simp [World.frozen?, g2])
  have hfind := find_overlaps horig n1 n2 n3
  have hcall := run_callFunc_extern hfn hname (by simp [hbody]) hnext hfind (c.args.map ρ) w
  have hsame : (Extern.SlicesOverlaps.overlaps fn.params fn.resultTypes (c.args.map ρ)).run P w = .ok (.bool false) w := by
    rw [hargs, hpa]
    exact hap
  rw [hsame] at hcall
  refine ⟨.bool false, w, .inl ?_, Step.same hS (VR.d_iff.2 rfl)⟩
  simp only [execOp, ho, resolve, hc, hρ, Deferred.ofValue, invoke, Sem.run_bind]
  simpa using hcall

end
end Go.Ev
namespace Go.Ev
set_option linter.unusedVariables false
set_option linter.unusedSimpArgs false
set_option linter.unusedSectionVars false
variable [Ctx]
section app
variable {P : Program} {X : Blocks} {β : Map} {N : Nat → Prop} {w : World} {L : Looks} {al : Nat} {ρ : Operand → Value} {o : Oper} {B : Boxes}
variable {c : Call} {xo yo : Operand} {t u e : TypeId} {ty : Ty} {by_ : Nat} {byref : FuncId → Bool} {call : Caller} {as : List AV} {res : Res}

theorem run_append_growz (t u ty e : TypeId) (i : TypeInfo) (z : Value) {ku : IntKind} (ht : P.underlying t = some (.slice e)) (hu : P.underlying u = some (.int ku)) (hi : P.info? e = some i) (hz : i.zero = some z) (hzs : z.cells.size = i.size) (hs0 : 0 < i.size)
    (base : Option Addr) (sLen sCap n : Nat) (olds : Array Value) (hold : (Builtin.firstCells i.size sLen (.slice base sLen sCap)).run P w.drew = .ok olds w.drew)
    (hn1 : 0 < n) (hg : sCap < sLen + n) (h63 : sLen + n ≤ 70368744177664) (hfit : (sLen + n) * i.bytes ≤ 70368744177664) :
    (Builtin.append_ #[t, u] ty #[.slice base sLen sCap, .int .i64 n]).run P w =
      .ok (.slice (some ⟨w.heap.size, 0, none⟩) (sLen + n) (grownCap w (sLen + n) sCap e))
        (w.drew.alloc (.cells (olds ++ Builtin.zeroCells z.cells n ++ Builtin.zeroCells z.cells (grownCap w (sLen + n) sCap e - (sLen + n))) e)) := by
  have hn : ¬ (sLen + n ≤ sCap) := by omega
  have h63' : ¬ (9223372036854775807 < ((sLen : Int) + (n : Int))) := by omega
  have h48' : ¬ (281474976710656 < Builtin.nextslicecap (sLen + n) sCap * i.bytes) := by have := growslice_fits hg (show (sLen + n) * i.bytes ≤ 140737488355328 by omega); omega
  have hw : IntKind.i64.wrap (n : Int) = (n : Int) := by rw [IntKind.wrap_i64]; omega
  have hneg : ¬ ((n : Int) < 0) := by omega
  have hbig : ¬ (281474976710656 < (n : Int) * (i.bytes : Int)) := by
    have h1 : n * i.bytes ≤ (sLen + n) * i.bytes := Nat.mul_le_mul_right _ (by omega)
    have h2 : (n : Int) * (i.bytes : Int) = ((n * i.bytes : Nat) : Int) := by simp
    rw [h2]; omega
  have hns : ¬ (n * i.size = 0) := Nat.pos_iff_ne_zero.1 (Nat.mul_pos hn1 hs0)
  simp [Builtin.append_, run_underlying ht, run_underlying hu, sizeOf, typeInfo, zeroValue, hi, hz, asInt, asIntOf, hw, hneg, hbig, hn, h63', h48', Question.forced, hold, hns, newRow, grownCap]

theorem app_newz {ku : IntKind} (ho : o.op = .call c) (hc : c.callee = .builtin .append) (ha : c.args.toList = [xo, yo]) (ht : c.argTypes.toList = [t, u]) (hu : P.underlying t = some (.slice e)) (hui : P.underlying u = some (.int ku)) (h0 : 0 < ty.size) (hn : sizeT P e = some ty.size) (hz : zeroT P e ty = true)
    (hby : bytesT P e = some by_) (hbp : 0 < by_) (hS : SimB X β N w L) (hal : ¬ N al) (htag : Ctx.tag ty e) {base : Option Addr} {len k n : Nat} {olds : Array Value} {l0 : List ty.den}
    (hv : ρ xo = .slice base len k) (hy : ρ yo = .int .i64 n) (hold : (Builtin.firstCells ty.size len (.slice base len k)).run P w.drew = .ok olds w.drew) (hl0 : l0.length = len) (hosz : olds.size = len * ty.size)
    (hord : ∀ i (hi : i < l0.length), RD (All X β L) w ty l0[i] (fun j => olds[i * ty.size + j]?)) (hn1 : 0 < n)
    (hg : k < len + n) (hfit : (len + n) * by_ ≤ 70368744177664) :
    Does P o ρ w (Step X β N w L al (updL L al (.arr ty (l0 ++ List.replicate n ty.dflt) true)) (.sr al 0 (len + n) ty.size none)) := by
  obtain ⟨inf, z, hi1, hz', hzs, hz4, hz5⟩ := zeroT_run hz
  have hi2 : inf.size = ty.size := by obtain ⟨i', hi', hs⟩ := sizeT_info hn; rw [hi1] at hi'; cases hi'; exact hs
  have hbs : inf.bytes = by_ := by simpa [bytesT, hi1] using hby
  have hlen : len + n ≤ 70368744177664 := Nat.le_trans (Nat.le_mul_of_pos_right _ hbp) hfit
  have hrun := run_append_growz (P := P) (w := w) t u o.type e inf z hu hui hi1 hz' (by rw [hi2]; exact hzs) (by rw [hi2]; exact h0) base len k n olds (by rw [hi2]; exact hold) hn1 hg hlen (by rw [hbs]; exact hfit)
  have hge := grownCap_ge' (w := w) (len + n) k e
  have hrow := zeroRow (Y := All X β L) (w := w) hzs h0 hz4 hz5 n (n * ty.size) (Nat.le_refl _)
  have hzl : (Builtin.zeroCells z.cells n).size = n * ty.size := by simp [Builtin.zeroCells, hzs]
  refine ⟨.slice (some ⟨w.heap.size, 0, none⟩) (len + n) (grownCap w (len + n) k e),
    w.drew.alloc (.cells (olds ++ Builtin.zeroCells z.cells n ++ Builtin.zeroCells z.cells (grownCap w (len + n) k e - (len + n))) e), .inl (exec_append ho hc ha ht (by rw [hv, hy]; exact hrun)), ?_⟩
  refine newArr (w := w.drew) (w0 := w) rfl hS rfl rfl rfl hal htag h0 hge (fun k' h => by cases h) ?_ ?_ ?_
  · simp only [Array.size_append, hosz, hzl, Builtin.zeroCells, Array.size_map, Array.size_range, hzs, ← Nat.add_mul]
    exact Nat.mul_le_mul_right _ (by omega)
  · simp only [Array.size_append, hosz, hzl, List.length_append, List.length_replicate, hl0, ← Nat.add_mul]
    omega
  · refine grown_RD (Y := All X β L) (w := w) (l := l0) (ys := List.replicate n ty.dflt) (olds := olds) (news := Builtin.zeroCells z.cells n) (by rw [hosz, hl0]) (by simpa using hzl) hord fun i hi => (hrow.1 i hi).congr fun j hj => ?_
    simp only [List.length_replicate] at hi
    have hlt : i * ty.size + j < n * ty.size := elem_lt hi hj
    have e1 : (Array.range (n * z.cells.size))[i * ty.size + j]? = some (i * ty.size + j) := by rw [hzs, Array.getElem?_eq_getElem (by simpa using hlt)]; simp
    simp [Builtin.zeroCells, e1, List.getElem?_range hlt]

theorem does_appz {ku : IntKind} (ho : o.op = .call c) (hc : c.callee = .builtin .append) (ha : c.args.toList = [xo, yo]) (ht : c.argTypes.toList = [t, u]) (hu : P.underlying t = some (.slice e)) (hui : P.underlying u = some (.int ku)) (hn : sizeT P e = some ty.size) (h0 : 0 < ty.size)
    (hby : bytesT P e = some by_) (hbp : 0 < by_) (hz : zeroT P e ty = true) (hS : SimB X β N w (look B)) (hal : ¬ N al) (htag : Ctx.tag ty e) {b off len k n : Nat} {l : List ty.den} {live : Bool} (hx : VR (All X β (look B)) β N w (.sr b off len ty.size (some k)) (ρ xo)) (hL : look B b = .arr ty l live)
    (hle : off + len ≤ l.length) (hy : ρ yo = .int .i64 n) (hb : (len + n) * by_ ≤ 70368744177664) (hroom : k < len + n) :
    Does P o ρ w (Step X β N w (look B) al (updL (look B) al (.arr ty ((l.drop off).take len ++ List.replicate n ty.dflt) true)) (.sr al 0 (len + n) ty.size none)) := by
  obtain ⟨hN, hs, h⟩ := VR.sr_iff.1 hx
  have hbx := hS.box b
  rw [hL] at hbx
  obtain ⟨_, hbx⟩ := hbx
  rcases h with ⟨_, _, _, _, hcap⟩ | ⟨cc, k', hβ, hv, hk, hkk, arr0, e0, fz0, ha0, hsz0⟩
  · cases hcap
  have := hkk k rfl
  subst this
  rcases hbx with ⟨g1, _⟩ | ⟨c', arr, e', g1, g2, g3, g4, g5⟩
  · rw [hβ] at g1; cases g1
  rw [hβ] at g1; cases g1
  rw [ha0] at g2; cases g2
  have hlt : ∀ q, q < len * ty.size → off * ty.size + q < arr0.size := by
    intro q hq
    have : (off + len) * ty.size ≤ l.length * ty.size := Nat.mul_le_mul_right _ hle
    rw [Nat.add_mul] at this; omega
  have hold := firstCells_of (P := P) (sz := ty.size) (n := len) (c := cc) (off := off * ty.size) (len := len) (cap := k') (m := len) (us := (arr0.toList.drop (off * ty.size)).take (len * ty.size)) (w1 := w.drew) (fun q hq => by
      have : w.drew.cell? ⟨cc, off * ty.size + q, none⟩ = arr0[off * ty.size + q]? := cell_of_arr (w := w.drew) (by rw [drew_heap]; exact ha0)
      rw [this, List.getElem?_take, if_pos hq, List.getElem?_drop]
      refine ⟨by simp, ?_⟩
      rw [Array.getElem?_eq_getElem (hlt q hq)]; rfl) (by
        have : (off + len) * ty.size ≤ l.length * ty.size := Nat.mul_le_mul_right _ hle
        rw [Nat.add_mul] at this
        simp; omega) (Nat.le_refl _)
  rw [List.take_of_length_le (by simp; omega)] at hold
  have hosz : ((arr0.toList.drop (off * ty.size)).take (len * ty.size)).toArray.size = len * ty.size := by
    have : (off + len) * ty.size ≤ l.length * ty.size := Nat.mul_le_mul_right _ hle
    rw [Nat.add_mul] at this
    simp; omega
  have hdl : ((l.drop off).take len).length = len := by simp; omega
  refine app_newz ho hc ha ht hu hui h0 hn hz hby hbp hS hal htag hv hy hold hdl hosz (fun i hi => ?_) (by omega) hroom hb
  have hi' : i < len := by rw [hdl] at hi; exact hi
  have he : ((l.drop off).take len)[i] = l[off + i]'(by omega) := by simp
  rw [he]
  refine (g5 (off + i) (by omega)).congr fun j hj => ?_
  have hq := elem_lt hi' hj
  simp only [List.getElem?_toArray, List.getElem?_take, if_pos hq, List.getElem?_drop]
  rw [Nat.add_mul, ← Nat.add_assoc]
  simp

theorem go_appz {ku : IntKind} (ho : o.op = .call c) (hc : c.callee = .builtin .append) (ht : c.argTypes.toList = [t, u]) (hu : P.underlying t = some (.slice e)) (hui : P.underlying u = some (.int ku)) (hn : sizeT P e = some ty.size) (h0 : 0 < ty.size) (hby : bytesT P e = some by_) (hbp : 0 < by_) (hz : zeroT P e ty = true)
    (hS : SimB X β N w (look B)) (hal : ¬ N al) (htag : Ctx.tag ty e) (hx : VRs (All X β (look B)) β N w as (c.args.toList.map ρ)) (hr : (evOp byref call (.appz ty by_) as B al).run = some res) :
    Does P o ρ w (Step X β N w (look B) al (updsL (look B) res.writes) res.val) := by
  rcases as with _ | ⟨p, _ | ⟨q, _ | ⟨q2, r⟩⟩⟩
  · simp [evOp, M.run] at hr
  · simp [evOp, M.run] at hr
  rotate_left
  · simp [evOp, M.run] at hr
  have hq : ∃ k n, q = .d (.int k n) := by
    cases q with
    | d x => cases x <;> first | exact ⟨_, _, rfl⟩ | (simp [evOp, M.run] at hr)
    | _ => simp [evOp, M.run] at hr
  obtain ⟨kk, n, rfl⟩ := hq
  obtain ⟨v1, v2, e0, hv1, hv2⟩ := VRs.two hx
  obtain ⟨xo, yo, ha, rfl, rfl⟩ : ∃ xo yo, c.args.toList = [xo, yo] ∧ ρ xo = v1 ∧ ρ yo = v2 := by
    cases hq : c.args.toList with
    | nil => rw [hq] at e0; simp at e0
    | cons p ps =>
      rw [hq] at e0
      cases ps with
      | nil => simp at e0
      | cons q qs =>
        simp at e0
        exact ⟨p, q, by rw [e0.2.2], e0.1, e0.2.1⟩
  simp only [evOp] at hr
  obtain ⟨hk, hr1⟩ := (M.run_ifb _ _ _).1 hr
  clear hr
  simp only [Bool.and_eq_true, decide_eq_true_eq] at hk
  obtain ⟨rfl, _⟩ := hk
  cases p with
  | sr b off len sz cap =>
    cases cap with
    | none => simp [M.run] at hr1
    | some k =>
      simp only at hr1
      cases hL : look B b with
      | dead => simp [hL, M.run] at hr1
      | cells l => simp [hL, M.run] at hr1
      | keys t l => simp [hL, M.run] at hr1
      | arr t' l live =>
        rw [hL] at hr1
        simp only at hr1
        split at hr1
        · rename_i et
          subst et
          obtain ⟨hsz, hr2⟩ := (M.run_ifb _ _ _).1 hr1
          obtain ⟨h3, hr3⟩ := (M.run_chk _ _ _).1 hr2
          simp only [M.run, Option.some.injEq] at hr3
          subst hr3
          simp only [beq_iff_eq] at hsz
          subst hsz
          simp only [Bool.and_eq_true, decide_eq_true_eq] at h3
          obtain ⟨⟨⟨h4, h5⟩, h6⟩, h7⟩ := h3
          have hy : ρ yo = .int .i64 (n.toNat : Nat) := by
            have : ρ yo = .int .i64 n := VR.d_iff.1 hv2
            rw [this, Int.toNat_of_nonneg h4]
          exact does_appz ho hc ha ht hu hui hn h0 hby hbp hz hS hal htag hv1 hL h6 hy h5 h7
        · simp [M.run] at hr1
  | _ => simp [M.run] at hr1

end app
end Go.Ev
namespace Go.Ev
set_option linter.unusedVariables false
set_option linter.unusedSimpArgs false
set_option linter.unusedSectionVars false
variable [Ctx]
theorem Step.putM' {X : Blocks} {β : Map} {N : Nat → Prop} {w w' : World} {L : Looks} {b c : Nat} {x : Box} {val : AV} {v : Value} 
    (h : SimB X β N w L) (hl : (L b).live = true) (hx : x.live = true) (hc : β b = some c) (ha : ∀ arr e fz, w.heap[c]? ≠ some (Obj.cells arr e fz))
    (hz : w'.heap.size = w.heap.size) (hos : w'.os = w.os) (htp : w'.tape = w.tape) (hou : w'.output = w.output) (hoth : ∀ k, k ≠ c → w'.heap[k]? = w.heap[k]?)
    (hb : Mv (All X β L) β N w (All X β (updL L b x)) β N w' → BoxR (All X β (updL L b x)) β N w' b x ∧ VR (All X β (updL L b x)) β N w' val v) :
    SimB X β N w' (updL L b x) ∧ VR (All X β (updL L b x)) β N w' val v ∧ Fr (Own β L) w (Own β (updL L b x)) w' := by
  have hown : ∀ k, Own β (updL L b x) k ↔ Own β L k := by
    intro k
    constructor
    · rintro ⟨b', h1, h2⟩
      by_cases eb : b' = b
      · subst eb; exact ⟨b', hl, h2⟩
      · exact ⟨b', by simpa [updL, eb] using h1, h2⟩
    · rintro ⟨b', h1, h2⟩
      by_cases eb : b' = b
      · subst eb; exact ⟨b', by simpa [updL] using hx, h2⟩
      · exact ⟨b', by simpa [updL, eb] using h1, h2⟩
  have hf : Fr (Own β L) w (Own β (updL L b x)) w' := by
    refine ⟨hos, htp, hou, by omega, fun k hk ho => ⟨fun ho' => ho ((hown k).1 ho'), hoth k fun e => ho (e ▸ ⟨b, hl, hc⟩)⟩, fun k a q fz hk => ?_⟩
    by_cases ek : k = c
    · subst ek
      exact absurd hk (ha _ _ _)
    · exact ⟨a, fz, by rw [hoth k ek]; exact hk, rfl⟩
  have mv := mv_of (X := X) hf (β' := β) (N := N) (N' := N) fun b hb => ⟨hb, rfl⟩
  obtain ⟨hb1, hb2⟩ := hb mv
  refine ⟨⟨?_, ?_, ?_, ?_, ?_, h.tabs' hf⟩, hb2, hf⟩
  · exact fun k ho => h.apart k ((hown k).1 ho)
  · intro b1 b2 k l1 l2 e1 e2
    refine h.inj b1 b2 k ?_ ?_ e1 e2
    · by_cases eb : b1 = b
      · subst eb; exact hl
      · simpa [updL, eb] using l1
    · by_cases eb : b2 = b
      · subst eb; exact hl
      · simpa [updL, eb] using l2
  · intro b1
    by_cases eb : b1 = b
    · subst eb
      rw [show updL L b1 x b1 = x from if_pos rfl]
      exact hb1
    · rw [show updL L b x b1 = L b1 from if_neg eb]
      by_cases hd : L b1 = .dead
      · rw [hd]; trivial
      · refine (h.box b1).move mv (h.dom b1 hd) fun k hk hne => hoth k fun ek => ?_
        subst ek
        -- the block is the other box's: it is live, or lies out of what is owned
        cases hq : (L b1).live with
        | true => exact eb (h.inj b1 b k hq hl hk hc)
        | false =>
          have hbx := h.box b1
          cases hL : L b1 with
          | dead => exact hne hL
          | cells l => rw [hL] at hq; simp [Box.live] at hq
          | keys t l => rw [hL] at hq; simp [Box.live] at hq
          | arr t l m =>
            rw [hL] at hq hbx
            obtain ⟨_, hbx⟩ := hbx
            rcases hbx with ⟨g1, _⟩ | ⟨c', a1, e1, g1, g2, g3, g4, _⟩
            · rw [hk] at g1; cases g1
            · rw [hk] at g1
              cases g1
              exact g4.1 (by simpa [Box.live] using hq) (.inr ⟨b, hl, hc⟩)
  · intro b1 hd
    by_cases eb : b1 = b
    · subst eb
      exact h.dom b1 fun e => by rw [e] at hl; simp [Box.live] at hl
    · exact h.dom b1 (by simpa [updL, eb] using hd)
  · intro k hk
    have := h.old k hk
    omega

theorem Step.putM {X : Blocks} {β : Map} {N : Nat → Prop} {w w' : World} {L : Looks} {al b c : Nat} {x : Box} {val : AV} {v : Value} 
    (h : SimB X β N w L) (hl : (L b).live = true) (hx : x.live = true) (hc : β b = some c) (ha : ∀ arr e fz, w.heap[c]? ≠ some (Obj.cells arr e fz))
    (hz : w'.heap.size = w.heap.size) (hos : w'.os = w.os) (htp : w'.tape = w.tape) (hou : w'.output = w.output) (hoth : ∀ k, k ≠ c → w'.heap[k]? = w.heap[k]?)
    (hb : Mv (All X β L) β N w (All X β (updL L b x)) β N w' → BoxR (All X β (updL L b x)) β N w' b x ∧ VR (All X β (updL L b x)) β N w' val v) :
    Step X β N w L al (updL L b x) val v w' := by
  obtain ⟨h1, h2, h3⟩ := Step.putM' (val := val) (v := v) h hl hx hc ha hz hos htp hou hoth hb
  exact ⟨β, N, h1, h2, h3, fun b hb => ⟨hb, rfl⟩, fun b hb => .inl hb⟩

section
variable {P : Program} {X : Blocks} {β : Map} {N : Nat → Prop} {w : World} {L : Looks} {al : Nat} {ρ : Operand → Value} {o : Oper}
variable {byref : FuncId → Bool} {call : Caller} {B : Boxes} {xs : List Operand} {as : List AV} {res : Res}

theorem does_mkm {t : TypeId} {ty : Ty} (ho : o.op = .makeMap t none) (hk : ty = .str ∨ ∃ i, ty = .int i) (hS : SimB X β N w L) (hal : ¬ N al) :
    Does P o ρ w (Step X β N w L al (updL L al (.keys ty [])) (.mp al)) := by
  refine ⟨_, _, .inl ?_, Step.new (o := .map #[] 0) (v := .map (some w.heap.size)) hS hal (by simp) fun β' N' mv hb hn => ⟨?_, VR.mp_iff.2 ⟨hn, _, hb, rfl⟩⟩⟩
  · simp [execOp, ho, Instr.makeMap, newObj]
    rfl
  · exact ⟨_, #[], 0, hb, heap_new .., hk, rfl, fun i hi => by simp at hi⟩

theorem bytes_eq (s z : ByteArray) : (s == z) = (s.data.toList == z.data.toList) := by
  have h : (s == z) = (s.data == z.data) := by cases s; cases z; rfl
  rw [h, Bool.eq_iff_iff, beq_iff_eq, beq_iff_eq, Array.toList_inj]

theorem find_str : ∀ (es : List MapEntry) (l : List (List UInt8)) (i : Nat) (s : ByteArray), es.length = l.length →
    (∀ j (hj : j < l.length), ∃ e, es[j]? = some e ∧ e.val = .bool true ∧ ∃ z : ByteArray, e.key = .string z ∧ z.data.toList = l[j]) →
    (Instr.findNow .string (.string s) es i = some none ∧ hasKey .str l s.data.toList = false) ∨
    (∃ k, Instr.findNow .string (.string s) es i = some (some (i + k, .bool true)) ∧ (∃ e, es[k]? = some e ∧ e.key = .string s) ∧ hasKey .str l s.data.toList = true)
  | [], [], i, s, _, _ => .inl ⟨rfl, rfl⟩
  | [], _ :: _, i, s, h, _ => by simp at h
  | _ :: _, [], i, s, h, _ => by simp at h
  | e :: es, y :: l, i, s, h, hl => by
    obtain ⟨e0, h1, h2, z, h3, h4⟩ := hl 0 (by simp)
    simp only [List.getElem?_cons_zero, Option.some.injEq] at h1
    subst h1
    simp only [List.getElem_cons_zero] at h4
    have hk : hasKey .str (y :: l) s.data.toList = ((s.data.toList == y) || hasKey .str l s.data.toList) := rfl
    have ih := find_str es l (i + 1) s (by simpa using h) (fun j hj => by
      obtain ⟨e1, g1, g2⟩ := hl (j + 1) (by simpa using hj)
      exact ⟨e1, by simpa using g1, by simpa using g2⟩)
    rw [Instr.findNow, h3, hk]
    by_cases hs : s = z
    · subst hs
      refine .inr ⟨0, ?_, ⟨e, rfl, h3⟩, by rw [h4, beq_self_eq_true, Bool.true_or]⟩
      simp [Instr.sameNow, h2, bytes_eq]
    · have hb : (s.data.toList == y) = false := by
        rw [beq_eq_false_iff_ne]
        intro q
        apply hs
        rw [← h4] at q
        exact ByteArray.ext (Array.toList_inj.1 q)
      have hn : Instr.sameNow .string (.string s) (.string z) = some false := by
        simp only [Instr.sameNow, bytes_eq, h4, hb]
      simp only [hn, hb, Bool.false_or]
      rcases ih with ⟨a, b⟩ | ⟨k, a, b, c⟩
      · exact .inl ⟨a, b⟩
      · exact .inr ⟨k + 1, by rw [a, Nat.add_assoc, Nat.add_comm 1 k], by simpa using b, c⟩
theorem find_int (kd : IntKind) : ∀ (es : List MapEntry) (l : List Int) (i : Nat) (x : Int), es.length = l.length →
    (∀ j (hj : j < l.length), ∃ e, es[j]? = some e ∧ e.val = .bool true ∧ e.key = .int kd l[j]) →
    (Instr.findNow (.int kd) (.int kd x) es i = some none ∧ hasKey (.int kd) l x = false) ∨
    (∃ k, Instr.findNow (.int kd) (.int kd x) es i = some (some (i + k, .bool true)) ∧ (∃ e, es[k]? = some e ∧ e.key = .int kd x) ∧ hasKey (.int kd) l x = true)
  | [], [], i, s, _, _ => .inl ⟨rfl, rfl⟩
  | [], _ :: _, i, s, h, _ => by simp at h
  | _ :: _, [], i, s, h, _ => by simp at h
  | e :: es, y :: l, i, x, h, hl => by
    obtain ⟨e0, h1, h2, h3⟩ := hl 0 (by simp)
    simp only [List.getElem?_cons_zero, Option.some.injEq] at h1
    subst h1
    simp only [List.getElem_cons_zero] at h3
    have hk : hasKey (.int kd) (y :: l) x = ((x == y) || hasKey (.int kd) l x) := rfl
    have ih := find_int kd es l (i + 1) x (by simpa using h) (fun j hj => by
      obtain ⟨e1, g1, g2⟩ := hl (j + 1) (by simpa using hj)
      exact ⟨e1, by simpa using g1, by simpa using g2⟩)
    rw [Instr.findNow, h3, hk]
    have hn : Instr.sameNow (.int kd) (.int kd x) (.int kd y) = some (x == y) := by simp [Instr.sameNow]
    cases hb : x == y with
    | true =>
      refine .inr ⟨0, ?_, ⟨e, rfl, by rw [h3, eq_of_beq hb]⟩, by rw [Bool.true_or]⟩
      rw [hn, hb]
      simp [h2]
    | false =>
      rw [hn, hb]
      simp only [Bool.false_or]
      rcases ih with ⟨a, b⟩ | ⟨k, a, b, c⟩
      · exact .inl ⟨a, b⟩
      · exact .inr ⟨k + 1, by rw [a, Nat.add_assoc, Nat.add_comm 1 k], by simpa using b, c⟩

theorem does_mget_str {xT kT eT : TypeId} {x ix : Operand} (ho : o.op = .lookup xT x ix false) (hu : P.underlying xT = some (.map kT eT)) (hk : P.underlying kT = some .string) (hz : ∀ w : World, (zeroValue eT).run P w = .ok (.bool false) w)
    (hS : SimB X β N w L) {b : Nat} {l : List (List UInt8)} (hb : L b = .keys .str l) (hx : VR (All X β L) β N w (.mp b) (ρ x)) {s : List UInt8} (hs : VR (All X β L) β N w (.d (.str s)) (ρ ix)) :
    Does P o ρ w (Step X β N w L al L (.d (.bool (hasKey .str l s)))) := by
  have hB := hS.box b
  rw [hb] at hB
  obtain ⟨c, es, k, h1, h2, h3, h4, h5⟩ := hB
  obtain ⟨_, c', e1, e2⟩ := VR.mp_iff.1 hx
  rw [h1] at e1
  cases e1
  obtain ⟨s0, e3, e4⟩ := VR.d_iff.1 hs
  subst e4
  have hf := find_str es.toList l 0 s0 (by simpa using h4) (fun j hj => by
    obtain ⟨e, a1, a2, a3⟩ := h5 j hj
    refine ⟨e, by simpa using a1, a2, ?_⟩
    generalize l[j] = y at a3
    cases a3 with
    | str h => exact ⟨_, by simpa using h, rfl⟩)
  refine ⟨.bool (hasKey .str l s0.data.toList), w, .inl ?_, Step.same hS (VR.d_iff.2 rfl)⟩
  rcases hf with ⟨f1, f2⟩ | ⟨q, f1, _, f2⟩
  · simp [execOp, ho, Instr.lookup, run_underlying hu, e2, e3, Go.MapKept.run_getObj_map h2, Go.MapKept.run_checkKey hk (show Go.MapKept.IsKey .string (.string s0) from trivial) _ 9999, Go.MapKept.run_findKey hk f1, f2, hz]
  · simp [execOp, ho, Instr.lookup, run_underlying hu, e2, e3, Go.MapKept.run_getObj_map h2, Go.MapKept.run_checkKey hk (show Go.MapKept.IsKey .string (.string s0) from trivial) _ 9999, Go.MapKept.run_findKey hk f1, f2, hz]

theorem addKey_old {l : List (List UInt8)} {x : List UInt8} (h : hasKey .str l x = true) : addKey .str l x = l := by unfold addKey; rw [if_pos h]
theorem addKey_new {l : List (List UInt8)} {x : List UInt8} (h : hasKey .str l x = false) : addKey .str l x = l ++ [x] := by unfold addKey; rw [h]; rfl
theorem does_mset_str {mT kT eT : TypeId} {x ix v : Operand} (ho : o.op = .mapUpdate mT x ix v ∨ o.op = .insert mT x ix v) (hu : P.underlying mT = some (.map kT eT)) (hk : P.underlying kT = some .string)
    (hS : SimB X β N w L) {b : Nat} {l : List (List UInt8)} (hb : L b = .keys .str l) (hx : VR (All X β L) β N w (.mp b) (ρ x)) {s : List UInt8} (hs : VR (All X β L) β N w (.d (.str s)) (ρ ix)) (hv : ρ v = .bool true) :
    Does P o ρ w (Step X β N w L al (updL L b (.keys .str (addKey .str l s))) .top) := by
  have hB := hS.box b
  rw [hb] at hB
  obtain ⟨c, es, k, h1, h2, h3, h4, h5⟩ := hB
  obtain ⟨_, c', e1, e2⟩ := VR.mp_iff.1 hx
  rw [h1] at e1
  cases e1
  obtain ⟨s0, e3, e4⟩ := VR.d_iff.1 hs
  subst e4
  have h5' : ∀ j (hj : j < l.length), ∃ e, es[j]? = some e ∧ e.val = .bool true ∧ ∃ z : ByteArray, e.key = .string z ∧ z.data.toList = l[j] := fun j hj => by
    obtain ⟨e, a1, a2, a3⟩ := h5 j hj
    refine ⟨e, a1, a2, ?_⟩
    generalize l[j] = y at a3
    cases a3 with
    | str h => exact ⟨_, by simpa using h, rfl⟩
  have hf := find_str es.toList l 0 s0 (by simpa using h4) (fun j hj => by
    obtain ⟨e, a1, a2⟩ := h5' j hj
    exact ⟨e, by simpa using a1, a2⟩)
  have ik : Go.MapKept.IsKey .string (.string s0) := trivial
  have hlive : (L b).live = true := by rw [hb]; rfl
  have nc : ∀ arr e fz, w.heap[c]? ≠ some (Obj.cells arr e fz) := fun arr e fz h => by rw [h2] at h; cases h
  have fin : ∀ (es' : Array MapEntry) (k' : Nat) (l' : List (List UInt8)), es'.size = l'.length → (∀ j (hj : j < l'.length), ∃ e, es'[j]? = some e ∧ e.val = .bool true ∧ ∃ z : ByteArray, e.key = .string z ∧ z.data.toList = l'[j]) →
      Step X β N w L al (updL L b (.keys .str l')) .top undef { w with heap := w.heap.setIfInBounds c (.map es' k') } := by
    intro es' k' l' g1 g2
    refine Step.putM hS hlive rfl h1 nc (by simp) rfl rfl rfl (fun q hq => (Go.MapKept.heap_set h2).2 q hq) fun mv => ⟨⟨c, es', k', h1, (Go.MapKept.heap_set h2).1, .inl rfl, g1, fun i hi => ?_⟩, VR.top_iff.2 trivial⟩
    obtain ⟨e, a1, a2, z, a3, a4⟩ := g2 i hi
    exact ⟨e, a1, a2, by rw [← a4]; exact .str (by rw [a3])⟩
  rcases hf with ⟨f1, f2⟩ | ⟨q, f1, ⟨e0, g1, g2⟩, f2⟩
  · rw [addKey_new f2]
    refine ⟨undef, _, .inr ⟨?_, rfl⟩, fin (es.push { key := .string s0, val := .bool true, born := k }) (k + 1) _ (by simp [h4]) fun j hj => ?_⟩
    · rcases ho with ho | ho <;>
        simp [execOp, ho, Instr.mapUpdate, run_underlying hu, e2, e3, hv, Go.MapKept.run_getObj_map h2, Go.MapKept.run_checkKey hk ik _ 9999, Go.MapKept.run_findKey hk f1, Go.MapKept.run_setObj_map _ h2]
    · by_cases hj' : j < l.length
      · obtain ⟨e, a1, a2, z, a3, a4⟩ := h5' j hj'
        exact ⟨e, by rw [Array.getElem?_push, if_neg (by omega)]; exact a1, a2, z, a3, by rw [a4, List.getElem_append_left hj']⟩
      · have : j = l.length := by simp at hj; omega
        subst this
        exact ⟨_, by rw [Array.getElem?_push, if_pos h4.symm], rfl, s0, rfl, by simp⟩
  · rw [addKey_old f2]
    have g1' : es[q]? = some e0 := by simpa using g1
    refine ⟨undef, _, .inr ⟨?_, rfl⟩, fin (es.modify q fun e => { e with key := .string s0, val := .bool true }) k l (by simp [h4]) fun j hj => ?_⟩
    · rcases ho with ho | ho <;>
        simp [execOp, ho, Instr.mapUpdate, run_underlying hu, e2, e3, hv, Go.MapKept.run_getObj_map h2, Go.MapKept.run_checkKey hk ik _ 9999, Go.MapKept.run_findKey hk f1, g1', g2, Go.MapKept.run_keyThatStays ik, Go.MapKept.run_setObj_map _ h2]
    · obtain ⟨e, a1, a2, z, a3, a4⟩ := h5' j hj
      by_cases hq : q = j
      · subst hq
        rw [g1'] at a1
        cases a1
        rw [g2] at a3
        cases a3
        exact ⟨{ e0 with key := .string s0, val := .bool true }, by simp [Array.getElem?_modify, g1'], rfl, s0, rfl, a4⟩
      · exact ⟨e, by simp [Array.getElem?_modify, hq, a1], a2, z, a3, a4⟩
theorem does_mget_int {xT kT eT : TypeId} {x ix : Operand} (ho : o.op = .lookup xT x ix false) (hu : P.underlying xT = some (.map kT eT)) {kd : IntKind} (hk : P.underlying kT = some (.int kd)) (hz : ∀ w : World, (zeroValue eT).run P w = .ok (.bool false) w)
    (hS : SimB X β N w L) {b : Nat} {l : List Int} (hb : L b = .keys (.int kd) l) (hx : VR (All X β L) β N w (.mp b) (ρ x)) {s : Int} (hs : VR (All X β L) β N w (.d (.int kd s)) (ρ ix)) :
    Does P o ρ w (Step X β N w L al L (.d (.bool (hasKey (.int kd) l s)))) := by
  have hB := hS.box b
  rw [hb] at hB
  obtain ⟨c, es, k, h1, h2, h3, h4, h5⟩ := hB
  obtain ⟨_, c', e1, e2⟩ := VR.mp_iff.1 hx
  rw [h1] at e1
  cases e1
  have e3 : ρ ix = .int kd s := VR.d_iff.1 hs
  have hf := find_int kd es.toList l 0 s (by simpa using h4) (fun j hj => by
    obtain ⟨e, a1, a2, a3⟩ := h5 j hj
    refine ⟨e, by simpa using a1, a2, ?_⟩
    generalize l[j] = y at a3
    cases a3 with
    | int h => simpa using h)
  refine ⟨.bool (hasKey (.int kd) l s), w, .inl ?_, Step.same hS (VR.d_iff.2 rfl)⟩
  rcases hf with ⟨f1, f2⟩ | ⟨q, f1, _, f2⟩
  · simp [execOp, ho, Instr.lookup, run_underlying hu, e2, e3, Go.MapKept.run_getObj_map h2, Go.MapKept.run_checkKey hk (show Go.MapKept.IsKey (.int kd) (.int kd s) from rfl) _ 9999, Go.MapKept.run_findKey hk f1, f2, hz]
  · simp [execOp, ho, Instr.lookup, run_underlying hu, e2, e3, Go.MapKept.run_getObj_map h2, Go.MapKept.run_checkKey hk (show Go.MapKept.IsKey (.int kd) (.int kd s) from rfl) _ 9999, Go.MapKept.run_findKey hk f1, f2, hz]

theorem addKeyI_old {kd : IntKind} {l : List Int} {x : Int} (h : hasKey (.int kd) l x = true) : addKey (.int kd) l x = l := by unfold addKey; rw [if_pos h]
theorem addKeyI_new {kd : IntKind} {l : List Int} {x : Int} (h : hasKey (.int kd) l x = false) : addKey (.int kd) l x = l ++ [x] := by unfold addKey; rw [h]; rfl
theorem does_mset_int {mT kT eT : TypeId} {x ix v : Operand} (ho : o.op = .mapUpdate mT x ix v ∨ o.op = .insert mT x ix v) (hu : P.underlying mT = some (.map kT eT)) {kd : IntKind} (hk : P.underlying kT = some (.int kd))
    (hS : SimB X β N w L) {b : Nat} {l : List Int} (hb : L b = .keys (.int kd) l) (hx : VR (All X β L) β N w (.mp b) (ρ x)) {s : Int} (hs : VR (All X β L) β N w (.d (.int kd s)) (ρ ix)) (hv : ρ v = .bool true) :
    Does P o ρ w (Step X β N w L al (updL L b (.keys (.int kd) (addKey (.int kd) l s))) .top) := by
  have hB := hS.box b
  rw [hb] at hB
  obtain ⟨c, es, k, h1, h2, h3, h4, h5⟩ := hB
  obtain ⟨_, c', e1, e2⟩ := VR.mp_iff.1 hx
  rw [h1] at e1
  cases e1
  have e3 : ρ ix = .int kd s := VR.d_iff.1 hs
  have h5' : ∀ j (hj : j < l.length), ∃ e, es[j]? = some e ∧ e.val = .bool true ∧ e.key = .int kd l[j] := fun j hj => by
    obtain ⟨e, a1, a2, a3⟩ := h5 j hj
    refine ⟨e, a1, a2, ?_⟩
    generalize l[j] = y at a3
    cases a3 with
    | int h => simpa using h
  have hf := find_int kd es.toList l 0 s (by simpa using h4) (fun j hj => by
    obtain ⟨e, a1, a2⟩ := h5' j hj
    exact ⟨e, by simpa using a1, a2⟩)
  have ik : Go.MapKept.IsKey (.int kd) (.int kd s) := rfl
  have hlive : (L b).live = true := by rw [hb]; rfl
  have nc : ∀ arr e fz, w.heap[c]? ≠ some (Obj.cells arr e fz) := fun arr e fz h => by rw [h2] at h; cases h
  have fin : ∀ (es' : Array MapEntry) (k' : Nat) (l' : List Int), es'.size = l'.length → (∀ j (hj : j < l'.length), ∃ e, es'[j]? = some e ∧ e.val = .bool true ∧ e.key = .int kd l'[j]) →
      Step X β N w L al (updL L b (.keys (.int kd) l')) .top undef { w with heap := w.heap.setIfInBounds c (.map es' k') } := by
    intro es' k' l' g1 g2
    refine Step.putM hS hlive rfl h1 nc (by simp) rfl rfl rfl (fun q hq => (Go.MapKept.heap_set h2).2 q hq) fun mv => ⟨⟨c, es', k', h1, (Go.MapKept.heap_set h2).1, .inr ⟨_, rfl⟩, g1, fun i hi => ?_⟩, VR.top_iff.2 trivial⟩
    obtain ⟨e, a1, a2, a3⟩ := g2 i hi
    exact ⟨e, a1, a2, .int (by rw [a3])⟩
  rcases hf with ⟨f1, f2⟩ | ⟨q, f1, ⟨e0, g1, g2⟩, f2⟩
  · rw [addKeyI_new f2]
    refine ⟨undef, _, .inr ⟨?_, rfl⟩, fin (es.push { key := .int kd s, val := .bool true, born := k }) (k + 1) _ (by simp [h4]) fun j hj => ?_⟩
    · rcases ho with ho | ho <;>
        simp [execOp, ho, Instr.mapUpdate, run_underlying hu, e2, e3, hv, Go.MapKept.run_getObj_map h2, Go.MapKept.run_checkKey hk ik _ 9999, Go.MapKept.run_findKey hk f1, Go.MapKept.run_setObj_map _ h2]
    · by_cases hj' : j < l.length
      · obtain ⟨e, a1, a2, a3⟩ := h5' j hj'
        exact ⟨e, by rw [Array.getElem?_push, if_neg (by omega)]; exact a1, a2, by rw [a3, List.getElem_append_left hj']⟩
      · have : j = l.length := by simp at hj; omega
        subst this
        exact ⟨_, by rw [Array.getElem?_push, if_pos h4.symm], rfl, by simp⟩
  · rw [addKeyI_old f2]
    have g1' : es[q]? = some e0 := by simpa using g1
    refine ⟨undef, _, .inr ⟨?_, rfl⟩, fin (es.modify q fun e => { e with key := .int kd s, val := .bool true }) k l (by simp [h4]) fun j hj => ?_⟩
    · rcases ho with ho | ho <;>
        simp [execOp, ho, Instr.mapUpdate, run_underlying hu, e2, e3, hv, Go.MapKept.run_getObj_map h2, Go.MapKept.run_checkKey hk ik _ 9999, Go.MapKept.run_findKey hk f1, g1', g2, Go.MapKept.run_keyThatStays ik, Go.MapKept.run_setObj_map _ h2]
    · obtain ⟨e, a1, a2, a3⟩ := h5' j hj
      by_cases hq : q = j
      · subst hq
        rw [g1'] at a1
        cases a1
        exact ⟨{ e0 with key := .int kd s, val := .bool true }, by simp [Array.getElem?_modify, g1'], rfl, by rw [← a3, g2]⟩
      · exact ⟨e, by simp [Array.getElem?_modify, hq, a1], a2, a3⟩

theorem isKey_cases {t : Ty} (h : t.isKey = true) : t = .str ∨ ∃ i, t = .int i := by
  cases t <;> simp [Ty.isKey] at h <;> simp
theorem go_mkm {t : TypeId} {ty : Ty} (ho : o.op = .makeMap t none) (hS : SimB X β N w (look B)) (hal : ¬ N al) (hx : VRs (All X β (look B)) β N w as (([] : List Operand).map ρ)) (hr : (evOp byref call (.mkm ty) as B al).run = some res) :
    Does P o ρ w (Step X β N w (look B) al (updsL (look B) res.writes) res.val) := by
  rcases as with _ | ⟨a, r⟩
  rotate_left
  · simp [evOp, M.run] at hr
  simp only [evOp] at hr
  obtain ⟨h1, h2⟩ := (M.run_ifb _ _ _).1 hr
  simp only [M.run, Option.some.injEq] at h2
  subst h2
  exact does_mkm ho (isKey_cases h1) hS hal
theorem zeroFalse_run {e : TypeId} (h : zeroFalse P e = true) (w : World) : (zeroValue e).run P w = .ok (.bool false) w := by
  unfold zeroFalse at h
  split at h
  · rename_i i hi
    split at h
    · rename_i hz
      simp [zeroValue, typeInfo, hi, hz]
    · cases h
  · cases h
theorem asKey_str {a : AV} {x : List UInt8} (h : (asKey .str a).run = some x) : a = .d (.str x) := by
  unfold asKey at h
  split at h
  · simp only [↓reduceDIte, M.run, Option.some.injEq] at h
    subst h; rfl
  · simp [M.run] at h
  · simp [M.run] at h
theorem asKey_int {kd : IntKind} {a : AV} {x : Int} (h : (asKey (.int kd) a).run = some x) : a = .d (.int kd x) := by
  unfold asKey at h
  split at h
  · simp [M.run] at h
  · split at h
    · rename_i e
      cases e
      simp only [M.run, Option.some.injEq] at h
      subst h; rfl
    · simp [M.run] at h
  · simp [M.run] at h
theorem go_mget {xT kT eT : TypeId} {x ix : Operand} {ty : Ty} (ho : o.op = .lookup xT x ix false) (hu : P.underlying xT = some (.map kT eT)) (hk : keyTy P kT = some ty) (hz : ∀ w : World, (zeroValue eT).run P w = .ok (.bool false) w)
    (hS : SimB X β N w (look B)) (hx : VRs (All X β (look B)) β N w as ([x, ix].map ρ)) (hr : (evOp byref call (.mget ty) as B al).run = some res) :
    Does P o ρ w (Step X β N w (look B) al (updsL (look B) res.writes) res.val) := by
  rcases as with _ | ⟨a, _ | ⟨k, _ | ⟨q, r⟩⟩⟩
  · simp [evOp, M.run] at hr
  · simp [evOp, M.run] at hr
  rotate_left
  · simp [evOp, M.run] at hr
  obtain ⟨v0, r0, e0, hv0, hx⟩ := VRs.cons hx
  obtain ⟨v1, r1, e1, hv1, _⟩ := VRs.cons hx
  simp only [List.map_cons, List.map_nil, List.cons.injEq] at e0
  obtain ⟨e0, e2⟩ := e0
  subst e2
  simp only [List.cons.injEq] at e1
  obtain ⟨e1, _⟩ := e1
  rw [← e0] at hv0
  rw [← e1] at hv1
  cases a with
  | mp b =>
    simp only [evOp] at hr
    cases hL : look B b with
    | keys t' l =>
      rw [hL] at hr
      simp only at hr
      split at hr
      · rename_i ht
        subst ht
        obtain ⟨y, h1, h2⟩ := run_bind_some hr
        simp only [M.run, Option.some.injEq] at h2
        subst h2
        unfold keyTy at hk
        split at hk
        · rename_i hkt
          cases hk
          rw [asKey_str h1] at hv1
          exact does_mget_str ho hu hkt hz hS hL hv0 hv1
        · rename_i kd hkt
          cases hk
          rw [asKey_int h1] at hv1
          exact does_mget_int ho hu hkt hz hS hL hv0 hv1
        · cases hk
      · simp [M.run] at hr
    | _ => simp [hL, M.run] at hr
  | _ => simp [evOp, M.run] at hr
theorem go_mset {mT kT eT : TypeId} {x ix v : Operand} {ty : Ty} (ho : o.op = .mapUpdate mT x ix v ∨ o.op = .insert mT x ix v) (hu : P.underlying mT = some (.map kT eT)) (hk : keyTy P kT = some ty)
    (hS : SimB X β N w (look B)) (hx : VRs (All X β (look B)) β N w as ([x, ix, v].map ρ)) (hr : (evOp byref call (.mset ty) as B al).run = some res) :
    Does P o ρ w (Step X β N w (look B) al (updsL (look B) res.writes) res.val) := by
  rcases as with _ | ⟨a, _ | ⟨k, _ | ⟨q, _ | ⟨q2, r⟩⟩⟩⟩
  · simp [evOp, M.run] at hr
  · simp [evOp, M.run] at hr
  · simp [evOp, M.run] at hr
  rotate_left
  · simp [evOp, M.run] at hr
  obtain ⟨v0, r0, e0, hv0, hx⟩ := VRs.cons hx
  obtain ⟨v1, r1, e1, hv1, hx⟩ := VRs.cons hx
  obtain ⟨v2, r2, e2, hv2, _⟩ := VRs.cons hx
  simp only [List.map_cons, List.map_nil, List.cons.injEq] at e0
  obtain ⟨e0, e3⟩ := e0
  subst e3
  simp only [List.cons.injEq] at e1
  obtain ⟨e1, e4⟩ := e1
  subst e4
  simp only [List.cons.injEq] at e2
  obtain ⟨e2, _⟩ := e2
  rw [← e0] at hv0
  rw [← e1] at hv1
  rw [← e2] at hv2
  have tv : q = .d (.bool true) ∧ ∃ b, a = .mp b := by
    cases a with
    | mp b =>
      cases q with
      | d x =>
        cases x with
        | bool t =>
          cases t with
          | true => exact ⟨rfl, b, rfl⟩
          | false => simp [evOp, M.run] at hr
        | _ => simp [evOp, M.run] at hr
      | _ => simp [evOp, M.run] at hr
    | _ => simp [evOp, M.run] at hr
  obtain ⟨rfl, b, rfl⟩ := tv
  have hv : ρ v = .bool true := VR.d_iff.1 hv2
  simp only [evOp] at hr
  cases hL : look B b with
  | keys t' l =>
    rw [hL] at hr
    simp only at hr
    split at hr
    · rename_i ht
      subst ht
      obtain ⟨y, h1, h2⟩ := run_bind_some hr
      simp only [M.run, Option.some.injEq] at h2
      subst h2
      unfold keyTy at hk
      split at hk
      · rename_i hkt
        cases hk
        rw [asKey_str h1] at hv1
        exact does_mset_str ho hu hkt hS hL hv0 hv1 hv
      · rename_i kd hkt
        cases hk
        rw [asKey_int h1] at hv1
        exact does_mset_int ho hu hkt hS hL hv0 hv1 hv
      · cases hk
    · simp [M.run] at hr
  | _ => simp [hL, M.run] at hr
theorem go_mlen {c : Call} {t kT eT : TypeId} (ho : o.op = .call c) (hc : c.callee = .builtin .len) (ht : c.argTypes[0]? = some t) (hu : P.underlying t = some (.map kT eT)) (hS : SimB X β N w (look B)) (hx : VRs (All X β (look B)) β N w as (c.args.toList.map ρ)) (hr : (evOp byref call .mlen as B al).run = some res) :
    Does P o ρ w (Step X β N w (look B) al (updsL (look B) res.writes) res.val) := by
  rcases as with _ | ⟨a, _ | ⟨b, r⟩⟩
  · simp [evOp, M.run] at hr
  rotate_left
  · simp [evOp, M.run] at hr
  obtain ⟨v, e0, hv⟩ := VRs.one hx
  obtain ⟨xo, ha, rfl⟩ : ∃ xo, c.args.toList = [xo] ∧ ρ xo = v := by
    cases hq : c.args.toList with
    | nil => rw [hq] at e0; simp at e0
    | cons p ps =>
      rw [hq] at e0
      simp at e0
      exact ⟨p, by rw [e0.2], e0.1⟩
  cases a with
  | mp b =>
    simp only [evOp] at hr
    cases hL : look B b with
    | keys t' l =>
      rw [hL] at hr
      simp only [M.run, Option.some.injEq] at hr
      subst hr
      have hB := hS.box b
      rw [hL] at hB
      obtain ⟨c1, es, k, h1, h2, h3, h4, h5⟩ := hB
      obtain ⟨_, c', e1, e2⟩ := VR.mp_iff.1 hv
      rw [h1] at e1
      cases e1
      have ha' : c.args = #[xo] := by rw [← Array.toArray_toList (xs := c.args), ha]
      refine ⟨.int .i64 (l.length : Nat), w, .inl ?_, Step.same hS (VR.d_iff.2 rfl)⟩
      simp [execOp, ho, resolve, hc, ha', invoke, builtin, Builtin.len_, ht, e2, run_underlying hu, goInt, Go.MapKept.run_getObj_map h2, h4]
    | _ => simp [hL, M.run] at hr
  | _ => simp [evOp, M.run] at hr
end
end Go.Ev
namespace Go.Ev
set_option linter.unusedVariables false
set_option linter.unusedSimpArgs false
set_option linter.unusedSectionVars false
variable [Ctx]
section
variable {P : Program} [TagOK P] {X : Blocks} {β : Map} {N : Nat → Prop} {w : World} {L : Looks} {al : Nat} {ρ : Operand → Value} {o : Oper}
variable {byref : FuncId → Bool} {call : Caller} {B : Boxes} {op : AOp} {xs : List Operand} {as : List AV} {res : Res}

theorem evOp_does (hc : compOp P o = some (op, xs)) (hnc : op.calls = false) (hS : SimB X β N w (look B)) (hal : ¬ N al)
    (hx : VRs (All X β (look B)) β N w as (xs.map ρ)) (hρ : ∀ u, ρ (.const u) = u) (hρf : ∀ f, ρ (.func f) = .func (.func f) #[] #[]) (hr : (evOp byref call op as B al).run = some res) :
    Does P o ρ w (Step X β N w (look B) al (updsL (look B) res.writes) res.val) := by
  cases hop : o.op with
  | move x =>
    simp only [compOp, hop, Option.some.injEq, Prod.mk.injEq] at hc
    obtain ⟨rfl, rfl⟩ := hc
    exact go_mv (.inl hop) hS hx hr
  | assign x =>
    simp only [compOp, hop] at hc
    have plain : some (AOp.mv, [x]) = some (op, xs) → Does P o ρ w (Step X β N w (look B) al (updsL (look B) res.writes) res.val) := by
      intro h
      simp only [Option.some.injEq, Prod.mk.injEq] at h
      obtain ⟨rfl, rfl⟩ := h
      exact go_mv (.inr hop) hS hx hr
    split at hc
    · rename_i h0
      split at hc
      · split at hc
        · simp only [Option.some.injEq, Prod.mk.injEq] at hc
          obtain ⟨rfl, rfl⟩ := hc
          refine go_nilArr hop ?_ hS hal hx hr
          unfold constNil at h0
          split at h0 <;> simp at h0
          exact hρ _
        · exact plain hc
      · exact plain hc
    · exact plain hc
  | pick c a b =>
    simp only [compOp, hop, Option.some.injEq, Prod.mk.injEq] at hc
    obtain ⟨rfl, rfl⟩ := hc
    exact go_pick hop hS hal hx hr
  | alloc e =>
    simp only [compOp, hop] at hc
    split at hc
    · rename_i zs hz
      split at hc
      · rename_i hT
        simp only [Option.some.injEq, Prod.mk.injEq] at hc
        obtain ⟨rfl, rfl⟩ := hc
        exact go_allocT hop hz (Bool.and_eq_true_iff.1 hT).2 hS hal hx hr
      · simp only [Option.some.injEq, Prod.mk.injEq] at hc
        obtain ⟨rfl, rfl⟩ := hc
        exact go_alloc hop hz hS hal hx hr
    · cases hc
  | box e x =>
    simp only [compOp, hop] at hc
    split at hc <;> simp at hc
    obtain ⟨rfl, rfl⟩ := hc
    exact go_box hop hS hal hx hr
  | build t ps =>
    simp only [compOp, hop] at hc
    split at hc
    · rename_i fs zs h1 h2
      split at hc
      · rename_i pl h3
        split at hc
        · rename_i h4
          simp only [Option.some.injEq, Prod.mk.injEq] at hc
          obtain ⟨rfl, rfl⟩ := hc
          exact go_build hop h1 h2 h3 h4 hS hal hx hr
        · cases hc
      · cases hc
    · cases hc
  | buildSlice t n ps =>
    simp only [compOp, hop] at hc
    split at hc
    · rename_i e hu
      split at hc
      · rename_i ty ht
        split at hc
        · rename_i hz
          simp only [Option.some.injEq, Prod.mk.injEq] at hc
          obtain ⟨rfl, rfl⟩ := hc
          obtain ⟨h1, h2⟩ := elemTy_run ht
          exact go_lit hop hu h1 h2 hz.1 hz.2 hS hal (TagOK.tag_of _ _ ht) hx hr
        · cases hc
      · cases hc
    · cases hc
  | load t a =>
    simp only [compOp, hop] at hc
    split at hc
    · rename_i n hn
      split at hc
      · rename_i hu
        simp only [Option.some.injEq, Prod.mk.injEq] at hc
        obtain ⟨rfl, rfl⟩ := hc
        exact go_load hop hu hn hS hal hx hr
      · cases hc
    · cases hc
  | store t a x =>
    simp only [compOp, hop] at hc
    split at hc
    · rename_i n hn
      simp only [Option.some.injEq, Prod.mk.injEq] at hc
      obtain ⟨rfl, rfl⟩ := hc
      exact go_store hop hn hS hal hx hr
    · cases hc
  | nilCheck x =>
    simp only [compOp, hop, Option.some.injEq, Prod.mk.injEq] at hc
    obtain ⟨rfl, rfl⟩ := hc
    exact go_chk hop hS hal hx hr
  | binOp bop t x y yt =>
    simp only [compOp, hop] at hc
    split at hc
    · simp only [Option.some.injEq, Prod.mk.injEq] at hc
      obtain ⟨rfl, rfl⟩ := hc
      exact go_bin hop hS hal hx hr
    · simp only [Option.some.injEq, Prod.mk.injEq] at hc
      obtain ⟨rfl, rfl⟩ := hc
      exact go_bin hop hS hal hx hr
    · rename_i hu
      split at hc
      · rename_i ng hng
        simp only [Option.some.injEq, Prod.mk.injEq] at hc
        obtain ⟨rfl, rfl⟩ := hc
        exact go_eqb hop hng hu hS hal hx hr
      · cases hc
    · rename_i fs hu
      split at hc
      · rename_i ng ks hng hks
        split at hc
        · cases hc
        · rename_i hp
          simp only [Bool.or_eq_true, not_or, Bool.not_eq_true] at hp
          simp only [Option.some.injEq, Prod.mk.injEq] at hc
          obtain ⟨rfl, rfl⟩ := hc
          exact go_eqs hop hng hu hks hp.1 hp.2 hS hal hx hr
      · cases hc
    · rename_i ms hu
      split at hc
      · rename_i ng hng
        split at hc
        · rename_i hy
          simp only [Option.some.injEq, Prod.mk.injEq] at hc
          obtain ⟨rfl, rfl⟩ := hc
          exact go_isnili hop hng hy hu hρ hS hal hx hr
        · cases hc
      · cases hc
    · split at hc
      · rename_i ng k k' hng hk hk'
        split at hc
        · rename_i he
          subst he
          simp only [Option.some.injEq, Prod.mk.injEq] at hc
          obtain ⟨rfl, rfl⟩ := hc
          exact go_isnil hop hng hk' hk hρ hS hal hx hr
        · cases hc
      · cases hc
  | unOp uop t x =>
    simp only [compOp, hop, Option.some.injEq, Prod.mk.injEq] at hc
    obtain ⟨rfl, rfl⟩ := hc
    exact go_un hop hS hal hx hr
  | convert s d x =>
    simp only [compOp, hop] at hc
    split at hc
    · rename_i k0 k hs hd
      simp only [Option.some.injEq, Prod.mk.injEq] at hc
      obtain ⟨rfl, rfl⟩ := hc
      exact go_toInt hop hs hd hS hal hx hr
    · rename_i hs hd
      simp only [Option.some.injEq, Prod.mk.injEq] at hc
      obtain ⟨rfl, rfl⟩ := hc
      rcases as with _ | ⟨a, _ | ⟨b, r⟩⟩
      · simp [evOp, M.run] at hr
      rotate_left
      · simp [evOp, M.run] at hr
      obtain ⟨v, e, hv⟩ := VRs.one hx
      simp at e
      subst e
      simp only [evOp] at hr
      split at hr
      · simp only [M.run, Option.some.injEq] at hr
        subst hr
        exact does_conv_str hop hs hd hS hv
      · simp [M.run] at hr
    · rename_i e hs hd
      split at hc
      · rename_i he
        simp only [Option.some.injEq, Prod.mk.injEq] at hc
        obtain ⟨rfl, rfl⟩ := hc
        exact go_s2b hop hs hd he hS hx hr
      · cases hc
    · rename_i e hs hd
      split at hc
      · rename_i he
        simp only [Option.some.injEq, Prod.mk.injEq] at hc
        obtain ⟨rfl, rfl⟩ := hc
        exact go_b2s hop hs hd he hS hx hr
      · cases hc
    · cases hc
  | makeFunc fn first caps =>
    cases fn with
    | func f =>
      simp only [compOp, hop] at hc
      split at hc
      · rename_i hf
        simp only [Option.some.injEq, Prod.mk.injEq] at hc
        obtain ⟨rfl, rfl⟩ := hc
        exact go_clo hop hf hS hal hx hr
      · cases hc
    | _ => simp [compOp, hop] at hc
  | makeMap t r =>
    cases r with
    | some _ => simp [compOp, hop] at hc
    | none =>
      simp only [compOp, hop] at hc
      split at hc
      · split at hc
        · split at hc
          · simp only [Option.some.injEq, Prod.mk.injEq] at hc
            obtain ⟨rfl, rfl⟩ := hc
            exact go_mkm hop hS hal hx hr
          · cases hc
        · cases hc
      · cases hc
  | lookup t x ix ok =>
    simp only [compOp, hop] at hc
    split at hc
    · cases hc
    · rename_i hok
      split at hc
      · rename_i k e hu
        split at hc
        · rename_i ty hk
          split at hc
          · rename_i hz
            simp only [Option.some.injEq, Prod.mk.injEq] at hc
            obtain ⟨rfl, rfl⟩ := hc
            have : ok = false := by simpa using hok
            subst this
            exact go_mget hop hu hk (zeroFalse_run hz) hS hx hr
          · cases hc
        · cases hc
      · cases hc
  | mapUpdate t x ix v =>
    simp only [compOp, hop] at hc
    split at hc
    · rename_i k e hu
      split at hc
      · rename_i ty hk
        simp only [Option.some.injEq, Prod.mk.injEq] at hc
        obtain ⟨rfl, rfl⟩ := hc
        exact go_mset (.inl hop) hu hk hS hx hr
      · cases hc
    · cases hc
  | insert t x ix v =>
    simp only [compOp, hop] at hc
    split at hc
    · rename_i k e hu
      split at hc
      · rename_i ty hk
        simp only [Option.some.injEq, Prod.mk.injEq] at hc
        obtain ⟨rfl, rfl⟩ := hc
        exact go_mset (.inr hop) hu hk hS hx hr
      · cases hc
    · cases hc
  | makeSlice t l c =>
    simp only [compOp, hop] at hc
    split at hc
    · rename_i e hu
      split at hc
      · rename_i ty b ht hb
        split at hc
        · rename_i hz
          simp only [Option.some.injEq, Prod.mk.injEq] at hc
          obtain ⟨rfl, rfl⟩ := hc
          obtain ⟨h1, h2⟩ := elemTy_run ht
          exact go_mk hop hu h1 h2 hb hz hS hal (TagOK.tag_of _ _ ht) hx hr
        · cases hc
      · cases hc
    · cases hc
  | slice t x lo hi mx =>
    simp only [compOp, hop] at hc
    split at hc
    · rename_i hu
      simp only [Option.some.injEq, Prod.mk.injEq] at hc
      obtain ⟨rfl, rfl⟩ := hc
      exact go_cut hop (.inl ⟨hu, rfl⟩) hS hal hx hr
    · rename_i e hu
      split at hc
      · rename_i n hn
        split at hc
        · cases hc
        · rename_i h0
          simp only [Option.some.injEq, Prod.mk.injEq] at hc
          obtain ⟨rfl, rfl⟩ := hc
          exact go_cut hop (.inr ⟨e, hu, hn, h0⟩) hS hal hx hr
      · cases hc
    · cases hc
  | fieldAddr s x f =>
    simp only [compOp, hop] at hc
    split at hc
    · rename_i fs hu
      split at hc
      · rename_i fd hf
        split at hc
        · rename_i n hn
          split at hc
          · cases hc
          · rename_i h0
            simp only [Option.some.injEq, Prod.mk.injEq] at hc
            obtain ⟨rfl, rfl⟩ := hc
            exact go_fld hop hu hf hn h0 hS hal hx hr
        · cases hc
      · cases hc
    · cases hc
  | field t x f =>
    simp only [compOp, hop] at hc
    split at hc
    · rename_i fs hu
      split at hc
      · rename_i fd hf
        split at hc
        · rename_i n hn
          split at hc
          · rename_i h0
            simp only [Option.some.injEq, Prod.mk.injEq] at hc
            obtain ⟨rfl, rfl⟩ := hc
            exact go_get hop hu hf hn h0 hS hal hx hr
          · cases hc
        · cases hc
      · cases hc
    · cases hc
  | indexAddr t x i =>
    simp only [compOp, hop] at hc
    split at hc
    · rename_i e hu
      split at hc
      · rename_i n hn
        simp only [Option.some.injEq, Prod.mk.injEq] at hc
        obtain ⟨rfl, rfl⟩ := hc
        exact go_elm hop hu hn hS hal hx hr
      · cases hc
    · cases hc
  | index t x i =>
    simp only [compOp, hop] at hc
    split at hc
    · rename_i hu
      simp only [Option.some.injEq, Prod.mk.injEq] at hc
      obtain ⟨rfl, rfl⟩ := hc
      exact go_chr hop hu hS hal hx hr
    · cases hc
  | extract t i =>
    simp only [compOp, hop, Option.some.injEq, Prod.mk.injEq] at hc
    obtain ⟨rfl, rfl⟩ := hc
    exact go_ext hop hS hal hx hr
  | call c =>
    simp only [compOp, hop] at hc
    split at hc
    · rename_i f hcal
      split at hc
      · rename_i g hg
        simp only [Option.some.injEq, Prod.mk.injEq] at hc
        obtain ⟨rfl, rfl⟩ := hc
        exact go_prim hop hcal (hρf f) hg hS hx hr
      · split at hc
        · rename_i hov
          simp only [Option.some.injEq, Prod.mk.injEq] at hc
          obtain ⟨rfl, rfl⟩ := hc
          exact go_ovl hop hcal (hρf _) hov hS hx hr
        · simp only [Option.some.injEq, Prod.mk.injEq] at hc
          obtain ⟨rfl, rfl⟩ := hc
          simp [AOp.calls] at hnc
    · simp only [Option.some.injEq, Prod.mk.injEq] at hc
      obtain ⟨rfl, rfl⟩ := hc
      simp [AOp.calls] at hnc
    · cases hc
    · cases hc
    · rename_i hcal
      split at hc
      · rename_i t ht
        split at hc
        · rename_i e hu
          simp only [Option.some.injEq, Prod.mk.injEq] at hc
          obtain ⟨rfl, rfl⟩ := hc
          exact go_len_sl hop hcal ht hu hS hal hx hr
        · rename_i hu
          simp only [Option.some.injEq, Prod.mk.injEq] at hc
          obtain ⟨rfl, rfl⟩ := hc
          exact go_len_str hop hcal ht hu hS hal hx hr
        · rename_i hu
          simp only [Option.some.injEq, Prod.mk.injEq] at hc
          obtain ⟨rfl, rfl⟩ := hc
          exact go_mlen hop hcal ht hu hS hx hr
        · cases hc
      · cases hc
    · rename_i hcal
      split at hc
      · rename_i t u ht
        split at hc
        · rename_i e e2 hu hu2
          split at hc
          · rename_i ty b hty hb
            split at hc
            · rename_i hz
              simp only [Bool.and_eq_true] at hz
              simp only [Option.some.injEq, Prod.mk.injEq] at hc
              obtain ⟨rfl, rfl⟩ := hc
              obtain ⟨h1, h2⟩ := elemTy_run hty
              exact go_app hop hcal ht hu (.inl ⟨_, hu2⟩) h1 h2 hb (by simpa [Nat.blt_eq] using hz.2) hz.1 hS hal (TagOK.tag_of _ _ hty) hx hr
            · cases hc
          · cases hc
        · rename_i e ki hu hu2
          split at hc
          · rename_i ty b hty hb
            split at hc
            · rename_i hz
              simp only [Bool.and_eq_true] at hz
              simp only [Option.some.injEq, Prod.mk.injEq] at hc
              obtain ⟨rfl, rfl⟩ := hc
              obtain ⟨h1, h2⟩ := elemTy_run hty
              exact go_appz hop hcal ht hu hu2 h1 h2 hb (by simpa [Nat.blt_eq] using hz.2) hz.1 hS hal (TagOK.tag_of _ _ hty) hx hr
            · cases hc
          · cases hc
        · rename_i e hu hu2
          split at hc
          · rename_i ty b hty hb
            split at hc
            · rename_i hz
              simp only [Bool.and_eq_true] at hz
              simp only [Option.some.injEq, Prod.mk.injEq] at hc
              obtain ⟨rfl, rfl⟩ := hc
              obtain ⟨h1, h2⟩ := elemTy_run hty
              exact go_app hop hcal ht hu (.inr hu2) h1 h2 hb (by simpa [Nat.blt_eq] using hz.2) hz.1 hS hal (TagOK.tag_of _ _ hty) hx hr
            · cases hc
          · cases hc
        · cases hc
      · cases hc
    · rename_i hcal
      split at hc
      · rename_i t u ht
        split at hc
        · rename_i e hu
          split at hc
          · rename_i n hn
            simp only [Option.some.injEq, Prod.mk.injEq] at hc
            obtain ⟨rfl, rfl⟩ := hc
            exact go_cpy hop hcal ht hu hn hS hal hx hr
          · cases hc
        · cases hc
      · cases hc
    · rename_i hcal
      simp only [Option.some.injEq, Prod.mk.injEq] at hc
      obtain ⟨rfl, rfl⟩ := hc
      exact go_mini hop hcal hS hal hx hr
    · rename_i hcal
      simp only [Option.some.injEq, Prod.mk.injEq] at hc
      obtain ⟨rfl, rfl⟩ := hc
      exact go_maxi hop hcal hS hal hx hr
    · rename_i hcal
      split at hc
      · rename_i t ht
        split at hc
        · rename_i e hu
          split at hc
          · rename_i ty hty
            split at hc
            · rename_i hz
              simp only [Option.some.injEq, Prod.mk.injEq] at hc
              obtain ⟨rfl, rfl⟩ := hc
              obtain ⟨h1, h2⟩ := elemTy_run hty
              exact go_clr hop hcal ht hu h1 h2 hz hS hal hx hr
            · cases hc
          · cases hc
        · cases hc
      · cases hc
    · rename_i hcal
      split at hc
      · rename_i t ht
        split at hc
        · rename_i e hu
          simp only [Option.some.injEq, Prod.mk.injEq] at hc
          obtain ⟨rfl, rfl⟩ := hc
          exact go_capv hop hcal ht hu hS hal hx hr
        · cases hc
      · cases hc
    · rename_i hcal
      simp only [Option.some.injEq, Prod.mk.injEq] at hc
      obtain ⟨rfl, rfl⟩ := hc
      exact go_sdata hop hcal hS hal hx hr
    · rename_i hcal
      split at hc
      · rename_i t u ht
        split at hc
        · rename_i hu
          simp only [Option.some.injEq, Prod.mk.injEq] at hc
          obtain ⟨rfl, rfl⟩ := hc
          exact go_ustr hop hcal ht hu hS hal hx hr
        · cases hc
      · cases hc
    · cases hc
  | _ => simp [compOp, hop] at hc

end
end Go.Ev
namespace Go.Ev
set_option linter.unusedVariables false
set_option linter.unusedSimpArgs false
set_option linter.unusedSectionVars false
variable [Ctx]

section
variable {X X' : Blocks} {β β' : Map} {N N' : Nat → Prop} {w : World} {L : Looks}

theorem RD.anti {t : Ty} {x : t.den} {g : Nat → Option Value} (h : RD X w t x g) (hX : ∀ c, X' c → X c) : RD X' w t x g :=
  h.move (Nat.le_refl _) (fun c _ hc => ⟨fun h' => hc (hX c h'), rfl⟩) g fun _ _ _ e => e

theorem VRd.anti {d : D} {v : Value} (h : VRd X w d v) (hX : ∀ c, X' c → X c) : VRd X' w d v :=
  h.move (Nat.le_refl _) fun c _ hc => ⟨fun h' => hc (hX c h'), rfl⟩

theorem srOK.ren {b b' off len sz : Nat} {cap : Option Nat} {v : Value} (h : srOK β N w b off len sz cap v) (hN : N' b') (hβ : β' b' = β b) : srOK β' N' w b' off len sz cap v := by
  obtain ⟨_, h2, h3⟩ := h
  refine ⟨hN, h2, ?_⟩
  rw [hβ]
  exact h3

mutual
theorem VR.ren (f : Nat → Option Nat) (hf : ∀ b b', f b = some b' → N b → N' b' ∧ β' b' = β b) (hX : ∀ c, X' c → X c) : ∀ (a a' : AV) (v : Value), a.ren f = some a' → VR X β N w a v → VR X' β' N' w a' v
  | .top, a', v, h, hv => by simp [AV.ren] at h; subst h; unfold VR; trivial
  | .d x, a', v, h, hv => by simp [AV.ren] at h; subst h; unfold VR at hv ⊢; exact hv.anti hX
  | .sr b off len sz cap, a', v, h, hv => by
    simp only [AV.ren] at h
    split at h <;> simp at h
    rename_i b' hb
    subst h
    unfold VR at hv ⊢
    obtain ⟨h1, h2⟩ := hf b b' hb hv.1
    exact hv.ren h1 h2
  | .ptr b off, a', v, h, hv => by
    simp only [AV.ren] at h
    split at h <;> simp at h
    rename_i b' hb
    subst h
    unfold VR at hv ⊢
    obtain ⟨h1, h2⟩ := hf b b' hb hv.1
    exact ⟨h1, by rw [h2]; exact hv.2⟩
  | .eptr b i sz off, a', v, h, hv => by
    simp only [AV.ren] at h
    split at h <;> simp at h
    rename_i b' hb
    subst h
    unfold VR at hv ⊢
    obtain ⟨h1, h2⟩ := hf b b' hb hv.1
    exact ⟨h1, by rw [h2]; exact hv.2⟩
  | .snil b T, a', v, h, hv => by
    simp only [AV.ren] at h
    split at h <;> simp at h
    rename_i b' hb
    subst h
    unfold VR at hv ⊢
    obtain ⟨h1, h2⟩ := hf b b' hb hv.1
    exact ⟨h1, by rw [h2]; exact hv.2⟩
  | .ifc T, a', v, h, hv => by simp [AV.ren] at h; subst h; unfold VR at hv ⊢; exact hv
  | .mp b, a', v, h, hv => by
    simp only [AV.ren] at h
    split at h <;> simp at h
    rename_i b' hb
    subst h
    unfold VR at hv ⊢
    obtain ⟨h1, h2⟩ := hf b b' hb hv.1
    exact ⟨h1, by rw [h2]; exact hv.2⟩
  | .cptr cs off, a', v, h, hv => by
    simp [AV.ren] at h; subst h
    unfold VR at hv ⊢
    obtain ⟨c, base, h1, h2, h3, h4⟩ := hv
    refine ⟨c, base, h1, fun h => h2 (hX c h), h3, fun j d hd => ?_⟩
    obtain ⟨u, hu, hr⟩ := h4 j d hd
    exact ⟨u, hu, hr.anti hX⟩
  | .agg cs, a', v, h, hv => by
    simp only [AV.ren] at h
    split at h <;> simp at h
    rename_i cs' hcs
    subst h
    unfold VR at hv ⊢
    obtain ⟨vs, h1, h2⟩ := hv
    exact ⟨vs, h1, VRs.ren f hf hX cs cs' _ hcs h2⟩
  | .tup cs, a', v, h, hv => by
    simp only [AV.ren] at h
    split at h <;> simp at h
    rename_i cs' hcs
    subst h
    unfold VR at hv ⊢
    obtain ⟨vs, h1, h2⟩ := hv
    exact ⟨vs, h1, VRs.ren f hf hX cs cs' _ hcs h2⟩
  | .fn g cs, a', v, h, hv => by
    simp only [AV.ren] at h
    split at h <;> simp at h
    rename_i cs' hcs
    subst h
    unfold VR at hv ⊢
    obtain ⟨vs, h1, h2⟩ := hv
    exact ⟨vs, h1, VRs.ren f hf hX cs cs' _ hcs h2⟩
theorem VRs.ren (f : Nat → Option Nat) (hf : ∀ b b', f b = some b' → N b → N' b' ∧ β' b' = β b) (hX : ∀ c, X' c → X c) : ∀ (as as' : List AV) (vs : List Value), AV.renL f as = some as' → VRs X β N w as vs → VRs X' β' N' w as' vs
  | [], as', vs, h, hv => by
    simp [AV.renL] at h; subst h
    cases vs with
    | nil => unfold VRs; trivial
    | cons v vs => unfold VRs at hv; exact hv.elim
  | a :: as, as', vs, h, hv => by
    cases vs with
    | nil => unfold VRs at hv; exact hv.elim
    | cons v vs =>
      unfold VRs at hv
      simp only [AV.renL] at h
      split at h
      · cases h
      · rename_i a1 ha1
        split at h
        · cases h
        · rename_i as1 has1
          simp at h
          subst h
          unfold VRs
          exact ⟨VR.ren f hf hX a a1 v ha1 hv.1, VRs.ren f hf hX as as1 vs has1 hv.2⟩
end

theorem renBoxes_get (f : Nat → Option Nat) : ∀ (xs xs' : List Box), renBoxes f xs = some xs' → xs'.length = xs.length ∧ ∀ (i : Nat) (x : Box), xs[i]? = some x → ∃ x', x.ren f = some x' ∧ xs'[i]? = some x'
  | [], xs', h => by simp [renBoxes] at h; subst h; simp
  | x :: xs, xs', h => by
    simp only [renBoxes] at h
    split at h
    · cases h
    · rename_i x1 h1
      split at h
      · cases h
      · rename_i xs1 h2
        simp at h
        subst h
        obtain ⟨g1, g2⟩ := renBoxes_get f xs xs1 h2
        refine ⟨by simp [g1], fun i y hy => ?_⟩
        cases i with
        | zero => simp at hy; subst hy; exact ⟨x1, h1, rfl⟩
        | succ i => simpa using g2 i y (by simpa using hy)

theorem Box.ren_live {f : Nat → Option Nat} {x x' : Box} (h : x.ren f = some x') : x'.live = x.live := by
  cases x with
  | dead => simp [Box.ren] at h; subst h; rfl
  | cells l => simp only [Box.ren] at h; split at h <;> simp at h; subst h; rfl
  | arr t l m => simp [Box.ren] at h; subst h; rfl
  | keys t l => simp [Box.ren] at h; subst h; rfl

theorem BoxR.ren {f : Nat → Option Nat} (hf : ∀ b b', f b = some b' → N b → N' b' ∧ β' b' = β b) (hX : ∀ c, X' c → X c) {b b' : Nat} {x x' : Box} (hx : x.ren f = some x') (hβ : β' b' = β b) (h : BoxR X β N w b x) : BoxR X' β' N' w b' x' := by
  cases x with
  | dead => simp [Box.ren] at hx; subst hx; trivial
  | cells l =>
    simp only [Box.ren] at hx
    split at hx <;> simp at hx
    rename_i l' hl
    subst hx
    obtain ⟨c, arr, e, h1, h2, h3, h4⟩ := h
    have hlen : ∀ (l l' : List AV), AV.renL f l = some l' → l'.length = l.length ∧ ∀ (j : Nat) (a' : AV), l'[j]? = some a' → ∃ a, l[j]? = some a ∧ a.ren f = some a' := by
      intro l
      induction l with
      | nil => intro l' h; simp [AV.renL] at h; subst h; simp
      | cons a l ih =>
        intro l' h
        simp only [AV.renL] at h
        split at h
        · cases h
        · rename_i a1 ha1
          split at h
          · cases h
          · rename_i l1 hl1
            simp at h
            subst h
            obtain ⟨g1, g2⟩ := ih l1 hl1
            refine ⟨by simp [g1], fun j a' ha' => ?_⟩
            cases j with
            | zero => simp at ha'; subst ha'; exact ⟨a, rfl, ha1⟩
            | succ j => simpa using g2 j a' (by simpa using ha')
    obtain ⟨g1, g2⟩ := hlen l l' hl
    refine ⟨c, arr, e, by rw [hβ]; exact h1, h2, by rw [g1]; exact h3, fun j a' v ha' hv => ?_⟩
    obtain ⟨a, ha, hr⟩ := g2 j a' ha'
    exact ⟨VR.ren f hf hX a a' v hr (h4 j a v ha hv).1, (h4 j a v ha hv).2⟩
  | keys t l =>
    simp [Box.ren] at hx
    subst hx
    obtain ⟨c, es, k, h1, h2, h3, h4, h5⟩ := h
    refine ⟨c, es, k, by rw [hβ]; exact h1, h2, h3, h4, fun i hi => ?_⟩
    obtain ⟨e, a1, a2, a3⟩ := h5 i hi
    exact ⟨e, a1, a2, a3.move (Nat.le_refl _) (fun c _ hc => ⟨fun h' => hc (hX c h'), rfl⟩) _ fun _ _ _ e => e⟩
  | arr t l m =>
    simp [Box.ren] at hx
    subst hx
    obtain ⟨h0, h⟩ := h
    refine ⟨h0, ?_⟩
    rw [hβ]
    rcases h with h | ⟨c, arr, e, h1, h2, h3, h4, h5⟩
    · exact .inl h
    · exact .inr ⟨c, arr, e, h1, h2, h3, ⟨fun hm hx => h4.1 hm (hX c hx), h4.2⟩, fun i hi => (h5 i hi).anti hX⟩

theorem nodupB_iff : ∀ (l : List Nat), nodupB l = true → l.Nodup
  | [], _ => List.nodup_nil
  | x :: xs, h => by
    simp only [nodupB, Bool.and_eq_true, Bool.not_eq_true', List.contains_eq_mem, decide_eq_false_iff_not] at h
    exact List.nodup_cons.2 ⟨h.1, nodupB_iff xs h.2⟩

theorem idxIn_get : ∀ (l : List Nat) (b i : Nat), idxIn l b = some i → l[i]? = some b
  | [], b, i, h => by simp [idxIn] at h
  | x :: xs, b, i, h => by
    unfold idxIn at h
    rw [List.idxOf?_cons] at h
    split at h
    · rename_i he
      simp at h he
      subst h; subst he
      rfl
    · simp only [Option.map_eq_some_iff] at h
      obtain ⟨j, hj, rfl⟩ := h
      simpa using idxIn_get xs b j hj

def pickMap (β : Map) (rs : List Nat) : Map := fun i => match rs[i]? with | some b => β b | none => none

theorem pick_names {rs : List Nat} : ∀ b b', idxIn rs b = some b' → N b → b' < rs.length ∧ pickMap β rs b' = β b := by
  intro b b' h _
  have := idxIn_get rs b b' h
  exact ⟨(List.getElem?_eq_some_iff.1 this).1, by simp [pickMap, this]⟩

theorem pick_sound {B : Boxes} {rs : List Nat} {B' : List Box} (hS : SimB X β N w L) (hLB : ∀ b, b ∈ rs → L b = look B b) (hr : (pickBoxes B rs).run = some B') (hX : ∀ c, X' c → All X β L c) (hXo : ∀ c, X' c → c < w.heap.size)
    (hXa : ∀ c, Own (pickMap β rs) (look B') c → ¬ X' c) :
    SimB X' (pickMap β rs) (· < rs.length) w (look B') ∧ B'.length = rs.length ∧ (∀ c, Own (pickMap β rs) (look B') c → ∃ b, b ∈ rs ∧ (L b).live = true ∧ β b = some c) ∧ rs.Nodup ∧ (∀ i b, rs[i]? = some b → (L b).ren (idxIn rs) = some (look B' i)) := by
  unfold pickBoxes at hr
  rw [M.run_ifb] at hr
  obtain ⟨h0, hr⟩ := hr
  split at hr
  · rename_i B1 hB
    simp only [M.run, Option.some.injEq] at hr
    subst hr
    simp only [Bool.and_eq_true] at h0
    have hnd := nodupB_iff rs h0.1
    obtain ⟨g1, g2⟩ := renBoxes_get _ _ _ hB
    simp only [List.length_map] at g1
    have hget : ∀ i b, rs[i]? = some b → (L b).ren (idxIn rs) = some (look B1 i) := by
      intro i b hb
      rw [hLB b (List.mem_of_getElem? hb)]
      obtain ⟨x', h1, h2⟩ := g2 i (look B b) (by simp [hb])
      rw [h1]
      simp [look, List.getD_eq_getElem?_getD, h2]
    have hdead : ∀ i, look B1 i ≠ .dead → ∃ b, rs[i]? = some b := by
      intro i hi
      by_cases hlt : i < rs.length
      · exact ⟨rs[i], List.getElem?_eq_getElem hlt⟩
      · exfalso
        apply hi
        unfold look
        rw [List.getD_eq_getElem?_getD, List.getElem?_eq_none (by omega)]
        rfl
    have hlive : ∀ i, (look B1 i).live = true → ∃ b, rs[i]? = some b ∧ (L b).live = true ∧ pickMap β rs i = β b := by
      intro i hi
      obtain ⟨b, hb⟩ := hdead i (fun e => by rw [e] at hi; simp [Box.live] at hi)
      exact ⟨b, hb, by rw [← Box.ren_live (hget i b hb)]; exact hi, by simp [pickMap, hb]⟩
    have hown : ∀ c, Own (pickMap β rs) (look B1) c → ∃ b, b ∈ rs ∧ (L b).live = true ∧ β b = some c := by
      rintro c ⟨i, h1, h2⟩
      obtain ⟨b, hb, hl, hp⟩ := hlive i h1
      exact ⟨b, List.mem_of_getElem? hb, hl, by rw [← hp]; exact h2⟩
    have hall : ∀ c, All X' (pickMap β rs) (look B1) c → All X β L c := by
      rintro c (h | h)
      · exact hX c h
      · obtain ⟨b, _, h1, h2⟩ := hown c h
        exact .inr ⟨b, h1, h2⟩
    refine ⟨⟨hXa, ?_, ?_, ?_, hXo, hS.tabs.1, fun c hc => ⟨(hS.tabs.2 c hc).1, fun ho => (hS.tabs.2 c hc).2 (by obtain ⟨b, _, h1, h2⟩ := hown c ho; exact ⟨b, h1, h2⟩)⟩⟩, g1, hown, hnd, hget⟩
    · intro i j c l1 l2 e1 e2
      obtain ⟨b1, hb1, k1, p1⟩ := hlive i l1
      obtain ⟨b2, hb2, k2, p2⟩ := hlive j l2
      have := hS.inj b1 b2 c k1 k2 (by rw [← p1]; exact e1) (by rw [← p2]; exact e2)
      subst this
      obtain ⟨q1, r1⟩ := List.getElem?_eq_some_iff.1 hb1
      obtain ⟨q2, r2⟩ := List.getElem?_eq_some_iff.1 hb2
      exact (List.getElem?_inj q1 hnd).1 (hb1.trans hb2.symm)
    · intro i
      by_cases hi : look B1 i = .dead
      · rw [hi]; trivial
      · obtain ⟨b, hb⟩ := hdead i hi
        exact BoxR.ren (β' := pickMap β rs) (N' := (· < rs.length)) (f := idxIn rs) (fun b b' h hN => pick_names b b' h hN) hall (hget i b hb) (by simp [pickMap, hb]) (hS.box b)
    · intro i hi
      obtain ⟨b, hb⟩ := hdead i hi
      exact (List.getElem?_eq_some_iff.1 hb).1
  · simp [M.run] at hr

end
end Go.Ev
namespace Go.Ev
set_option linter.unusedVariables false
set_option linter.unusedSimpArgs false
set_option linter.unusedSectionVars false
variable [Ctx]

section
variable {P : Program} {X : Blocks} {β : Map} {N : Nat → Prop} {w : World} {L : Looks} {al : Nat} {ρ : Operand → Value} {o : Oper}

mutual
theorem snap_sound {B : Boxes} : ∀ (a a' : AV) (ws : List (Nat × Box)) (v : Value) (L1 : Looks), SimB X β N w L1 → Cl (look B) L1 → (snap B a).run = some (a', ws) → VR (All X β L1) β N w a v →
    SimB X β N w (updsL L1 ws) ∧ Fr (Own β L1) w (Own β (updsL L1 ws)) w ∧ VR (All X β (updsL L1 ws)) β N w a' v ∧ Cl (look B) (updsL L1 ws)
  | .sr b off len sz cap, a', ws, v, L1, hS, hcl, hr, hv => by
    unfold snap at hr
    obtain ⟨⟨x, ws'⟩, h1, h2⟩ := run_bind_some hr
    simp only [M.run, Option.some.injEq, Prod.mk.injEq] at h2
    obtain ⟨rfl, rfl⟩ := h2
    obtain ⟨a1, a2, a3, a4⟩ := toD_sound hS hcl h1 hv
    exact ⟨a1, a2, VR.d_iff.2 a3, a4⟩
  | .agg cs, a', ws, v, L1, hS, hcl, hr, hv => by
    unfold snap at hr
    obtain ⟨⟨x, ws'⟩, h1, h2⟩ := run_bind_some hr
    simp only [M.run, Option.some.injEq, Prod.mk.injEq] at h2
    obtain ⟨rfl, rfl⟩ := h2
    obtain ⟨vs, e, hvs⟩ := VR.agg_iff.1 hv
    obtain ⟨a1, a2, a3, a4⟩ := snapL_sound cs x ws' _ L1 hS hcl h1 hvs
    exact ⟨a1, a2, VR.agg_iff.2 ⟨vs, e, a3⟩, a4⟩
  | .tup cs, a', ws, v, L1, hS, hcl, hr, hv => by
    unfold snap at hr
    obtain ⟨⟨x, ws'⟩, h1, h2⟩ := run_bind_some hr
    simp only [M.run, Option.some.injEq, Prod.mk.injEq] at h2
    obtain ⟨rfl, rfl⟩ := h2
    obtain ⟨vs, e, hvs⟩ := VR.tup_iff.1 hv
    obtain ⟨a1, a2, a3, a4⟩ := snapL_sound cs x ws' _ L1 hS hcl h1 hvs
    exact ⟨a1, a2, VR.tup_iff.2 ⟨vs, e, a3⟩, a4⟩
  | .fn g cs, a', ws, v, L1, hS, hcl, hr, hv => by
    unfold snap at hr
    obtain ⟨⟨x, ws'⟩, h1, h2⟩ := run_bind_some hr
    simp only [M.run, Option.some.injEq, Prod.mk.injEq] at h2
    obtain ⟨rfl, rfl⟩ := h2
    obtain ⟨vs, e, hvs⟩ := VR.fn_iff.1 hv
    obtain ⟨a1, a2, a3, a4⟩ := snapL_sound cs x ws' _ L1 hS hcl h1 hvs
    exact ⟨a1, a2, VR.fn_iff.2 ⟨vs, e, a3⟩, a4⟩
  | .top, a', ws, v, L1, hS, hcl, hr, hv => by
    simp only [snap, M.run, Option.some.injEq, Prod.mk.injEq] at hr
    obtain ⟨rfl, rfl⟩ := hr
    exact ⟨hS, Fr.refl _ _, hv, hcl⟩
  | .d x, a', ws, v, L1, hS, hcl, hr, hv => by
    simp only [snap, M.run, Option.some.injEq, Prod.mk.injEq] at hr
    obtain ⟨rfl, rfl⟩ := hr
    exact ⟨hS, Fr.refl _ _, hv, hcl⟩
  | .ptr b off, a', ws, v, L1, hS, hcl, hr, hv => by
    simp only [snap, M.run, Option.some.injEq, Prod.mk.injEq] at hr
    obtain ⟨rfl, rfl⟩ := hr
    exact ⟨hS, Fr.refl _ _, hv, hcl⟩
  | .eptr b i sz off, a', ws, v, L1, hS, hcl, hr, hv => by
    simp only [snap, M.run, Option.some.injEq, Prod.mk.injEq] at hr
    obtain ⟨rfl, rfl⟩ := hr
    exact ⟨hS, Fr.refl _ _, hv, hcl⟩
  | .snil b T, a', ws, v, L1, hS, hcl, hr, hv => by
    simp only [snap, M.run, Option.some.injEq, Prod.mk.injEq] at hr
    obtain ⟨rfl, rfl⟩ := hr
    exact ⟨hS, Fr.refl _ _, hv, hcl⟩
  | .mp b, a', ws, v, L1, hS, hcl, hr, hv => by
    simp only [snap, M.run, Option.some.injEq, Prod.mk.injEq] at hr
    obtain ⟨rfl, rfl⟩ := hr
    exact ⟨hS, Fr.refl _ _, hv, hcl⟩
  | .ifc T, a', ws, v, L1, hS, hcl, hr, hv => by
    simp only [snap, M.run, Option.some.injEq, Prod.mk.injEq] at hr
    obtain ⟨rfl, rfl⟩ := hr
    exact ⟨hS, Fr.refl _ _, hv, hcl⟩
  | .cptr cs off, a', ws, v, L1, hS, hcl, hr, hv => by
    simp only [snap, M.run, Option.some.injEq, Prod.mk.injEq] at hr
    obtain ⟨rfl, rfl⟩ := hr
    exact ⟨hS, Fr.refl _ _, hv, hcl⟩
theorem snapL_sound {B : Boxes} : ∀ (as as' : List AV) (ws : List (Nat × Box)) (vs : List Value) (L1 : Looks), SimB X β N w L1 → Cl (look B) L1 → (snapL B as).run = some (as', ws) → VRs (All X β L1) β N w as vs →
    SimB X β N w (updsL L1 ws) ∧ Fr (Own β L1) w (Own β (updsL L1 ws)) w ∧ VRs (All X β (updsL L1 ws)) β N w as' vs ∧ Cl (look B) (updsL L1 ws)
  | [], as', ws, vs, L1, hS, hcl, hr, hv => by
    simp only [snapL, M.run, Option.some.injEq, Prod.mk.injEq] at hr
    obtain ⟨rfl, rfl⟩ := hr
    exact ⟨hS, Fr.refl _ _, hv, hcl⟩
  | a :: as, as', ws, vs, L1, hS, hcl, hr, hv => by
    obtain ⟨v, vs, rfl, hv1, hv2⟩ := VRs.cons hv
    unfold snapL at hr
    obtain ⟨⟨x, w1⟩, h1, hr⟩ := run_bind_some hr
    obtain ⟨⟨xs, w2⟩, h2, hr⟩ := run_bind_some hr
    simp only [M.run, Option.some.injEq, Prod.mk.injEq] at hr
    obtain ⟨rfl, rfl⟩ := hr
    obtain ⟨a1, a2, a3, a4⟩ := snap_sound a x w1 v L1 hS hcl h1 hv1
    have mv := mv_cl (X := X) (N := N) a2
    obtain ⟨b1, b2, b3, b4⟩ := snapL_sound as xs w2 vs (updsL L1 w1) a1 a4 h2 (VRs.move mv _ _ hv2)
    rw [updsL_append]
    refine ⟨b1, a2.trans b2, ?_, b4⟩
    unfold VRs
    exact ⟨a3.move (mv_cl (X := X) (N := N) b2), b3⟩
end

def CallOK (P : Program) (call : Caller) : Prop := ∀ (f : FuncId) (as : List AV) (B : Boxes) (r : AV) (B' : Boxes), (call f as B).run = some (r, B') →
  (∃ fn, P.funcs[f]? = some fn ∧ fn.body.isNone = false ∧ (fn.name == "runtime.NumGoroutine") = false) ∧ B.length ≤ B'.length ∧
  ∀ (X : Blocks) (β : Map) (w : World) (vs : List Value), SimB X β (· < B.length) w (look B) → VRs (All X β (look B)) β (· < B.length) w as vs →
    Calls P f vs.toArray w fun e w' => ∃ v β', e = .returned v ∧ SimB X β' (· < B'.length) w' (look B') ∧ VR (All X β' (look B')) β' (· < B'.length) w' r v ∧
      Fr (Own β (look B)) w (Own β' (look B')) w' ∧ ∀ b, b < B.length → β' b = β b

mutual
theorem VR.flat {Y Y' : Blocks} : ∀ (a : AV) (v : Value), a.flat = true → VR Y β N w a v → VR Y' β N w a v
  | .top, v, h, hv => by simp [AV.flat] at h
  | .d x, v, h, hv => by
    unfold VR at hv ⊢
    cases x <;> first | exact hv | (simp [AV.flat, D.flat] at h)
  | .sr .., v, h, hv => by unfold VR at hv ⊢; exact hv
  | .ptr .., v, h, hv => by unfold VR at hv ⊢; exact hv
  | .eptr .., v, h, hv => by unfold VR at hv ⊢; exact hv
  | .snil .., v, h, hv => by unfold VR at hv ⊢; exact hv
  | .ifc .., v, h, hv => by unfold VR at hv ⊢; exact hv
  | .mp .., v, h, hv => by unfold VR at hv ⊢; exact hv
  | .cptr .., v, h, hv => by simp [AV.flat] at h
  | .agg cs, v, h, hv => by
    unfold VR at hv ⊢
    obtain ⟨vs, h1, h2⟩ := hv
    exact ⟨vs, h1, VRs.flat cs _ (by simpa [AV.flat] using h) h2⟩
  | .tup cs, v, h, hv => by
    unfold VR at hv ⊢
    obtain ⟨vs, h1, h2⟩ := hv
    exact ⟨vs, h1, VRs.flat cs _ (by simpa [AV.flat] using h) h2⟩
  | .fn g cs, v, h, hv => by
    unfold VR at hv ⊢
    obtain ⟨vs, h1, h2⟩ := hv
    exact ⟨vs, h1, VRs.flat cs _ (by simpa [AV.flat] using h) h2⟩
theorem VRs.flat {Y Y' : Blocks} : ∀ (as : List AV) (vs : List Value), AV.flat.flatL as = true → VRs Y β N w as vs → VRs Y' β N w as vs
  | [], [], h, hv => by unfold VRs; trivial
  | [], v :: vs, h, hv => by unfold VRs at hv; exact hv.elim
  | a :: as, [], h, hv => by unfold VRs at hv; exact hv.elim
  | a :: as, v :: vs, h, hv => by
    simp only [AV.flat.flatL, Bool.and_eq_true] at h
    unfold VRs at hv ⊢
    exact ⟨VR.flat a v h.1 hv.1, VRs.flat as vs h.2 hv.2⟩
end

theorem RD.flat {Y Y' : Blocks} {t : Ty} {x : t.den} {g : Nat → Option Value} (h : RD Y w t x g) : t.flat = true → RD Y' w t x g := by
  induction h with
  | int h => exact fun _ => .int h
  | bool h => exact fun _ => .bool h
  | str h => exact fun _ => .str h
  | unit => exact fun _ => .unit
  | nil h => exact fun hf => by simp [Ty.flat] at hf
  | emp a cap h => exact fun hf => by simp [Ty.flat] at hf
  | sl => exact fun hf => by simp [Ty.flat] at hf
  | pair h1 h2 ih1 ih2 => intro hf; simp only [Ty.flat, Bool.and_eq_true] at hf; exact .pair (ih1 hf.1) (ih2 hf.2)
  | rose => exact fun hf => by simp [Ty.flat] at hf

theorem BoxR.flat {Y Y' : Blocks} {b : Nat} {x : Box} (h : BoxR Y β N w b x) (hf : x.flat = true) : BoxR Y' β N w b x := by
  cases x with
  | dead => trivial
  | cells l =>
    obtain ⟨c, arr, e, h1, h2, h3, h4⟩ := h
    have : ∀ (l : List AV), AV.flat.flatL l = true → ∀ a ∈ l, a.flat = true := by
      intro l
      induction l with
      | nil => intro _ a ha; cases ha
      | cons a l ih =>
        intro h b hb
        simp only [AV.flat.flatL, Bool.and_eq_true] at h
        rcases List.mem_cons.1 hb with rfl | hb
        · exact h.1
        · exact ih h.2 b hb
    exact ⟨c, arr, e, h1, h2, h3, fun j a v ha hv => ⟨VR.flat a v (this l hf a (List.mem_of_getElem? ha)) (h4 j a v ha hv).1, (h4 j a v ha hv).2⟩⟩
  | keys t l =>
    obtain ⟨c, es, k, h1, h2, h3, h4, h5⟩ := h
    refine ⟨c, es, k, h1, h2, h3, h4, fun i hi => ?_⟩
    obtain ⟨e, a1, a2, a3⟩ := h5 i hi
    exact ⟨e, a1, a2, a3.flat (by rcases h3 with rfl | ⟨k, rfl⟩ <;> rfl)⟩
  | arr t l m =>
    simp only [Box.flat, Bool.and_eq_true] at hf
    obtain ⟨h0, h⟩ := h
    refine ⟨h0, ?_⟩
    rcases h with h | ⟨c, arr, e, h1, h2, h3, h4, h5⟩
    · exact .inl h
    · exact .inr ⟨c, arr, e, h1, h2, h3, ⟨fun hm => (by rw [hf.2] at hm; cases hm), h4.2⟩, fun i hi => (h5 i hi).flat hf.1⟩

end
end Go.Ev
namespace Go.Ev
set_option linter.unusedVariables false
set_option linter.unusedSimpArgs false
set_option linter.unusedSectionVars false
variable [Ctx]

section
variable {P : Program} {X : Blocks} {β : Map} {N : Nat → Prop} {w : World} {L : Looks} {al : Nat} {ρ : Operand → Value} {o : Oper}

theorem optM_run {α : Type} {x : Option α} {a : α} (h : (optM x).run = some a) : x = some a := by
  cases x with
  | none => simp [optM, M.run] at h
  | some b => simpa [optM, M.run] using h

theorem updsL_zip : ∀ (ks : List Nat) (xs : List Box) (L : Looks), ks.Nodup → ks.length = xs.length →
    (∀ (i b : Nat), ks[i]? = some b → updsL L (ks.zip xs) b = look xs i) ∧ ∀ b, b ∉ ks → updsL L (ks.zip xs) b = L b
  | [], [], L, _, _ => ⟨by simp, fun _ _ => rfl⟩
  | [], _ :: _, _, _, h => by simp at h
  | _ :: _, [], _, _, h => by simp at h
  | k :: ks, x :: xs, L, hn, hl => by
    rw [List.nodup_cons] at hn
    obtain ⟨h1, h2⟩ := updsL_zip ks xs (updL L k x) hn.2 (by simpa using hl)
    have e : updsL L ((k :: ks).zip (x :: xs)) = updsL (updL L k x) (ks.zip xs) := rfl
    rw [e]
    refine ⟨fun i b hb => ?_, fun b hb => ?_⟩
    · cases i with
      | zero =>
        simp at hb
        subst hb
        rw [h2 k hn.1]
        simp [updL, look]
      | succ i =>
        rw [h1 i b (by simpa using hb)]
        simp [look]
    · simp only [List.mem_cons, not_or] at hb
      rw [h2 b hb.2]
      exact if_neg hb.1

theorem evCallOp_sound {byref : FuncId → Bool} {call : Caller} {f : FuncId} {args : List AV} {B : Boxes} {res : Res} {vs : List Value} (hok : CallOK P call) (hr : (evCallOp byref call f args B al).run = some res) (hS : SimB X β N w (look B))
    (hal : ∀ j, j < room → ¬ N (al + j)) (hv : VRs (All X β (look B)) β N w args vs) :
    (∃ fn, P.funcs[f]? = some fn ∧ fn.body.isNone = false ∧ (fn.name == "runtime.NumGoroutine") = false) ∧
    Calls P f vs.toArray w fun e w' => ∃ v, e = .returned v ∧ Step X β N w (look B) al (updsL (look B) res.writes) res.val v w' := by
  unfold evCallOp at hr
  obtain ⟨⟨as, ws⟩, hsn, hr⟩ := run_bind_some hr
  simp only at hr
  generalize hrs : reachGo B 1000 [] (AV.refs.refsL as) = rs at hr
  obtain ⟨as', has, hr⟩ := run_bind_some hr
  have has' := optM_run has
  obtain ⟨sub, hpk, hr⟩ := run_bind_some hr
  rw [M.run_ifb] at hr
  obtain ⟨hdis, hr⟩ := hr
  obtain ⟨⟨r, B1⟩, hcall, hr⟩ := run_bind_some hr
  simp only at hr
  generalize hks : rs ++ (List.range (B1.length - rs.length)).map (fun j => al + j) = ks at hr
  rw [M.run_ifb] at hr
  obtain ⟨hcnd, hr⟩ := hr
  obtain ⟨r', hr1, hr⟩ := run_bind_some hr
  have hr1' := optM_run hr1
  obtain ⟨B1', hB1, hr⟩ := run_bind_some hr
  have hB1' := optM_run hB1
  simp only [M.run, Option.some.injEq] at hr
  subst hr
  simp only [Bool.and_eq_true, List.all_eq_true] at hcnd
  obtain ⟨⟨⟨⟨c1, c2⟩, c3⟩, c4⟩, c5⟩ := hcnd
  have c1' := Nat.le_of_ble_eq_true c1
  have c2' := Nat.le_of_ble_eq_true c2
  have c3' : ∀ b, b ∈ rs → b < al := fun b hb => by simpa [Nat.blt_eq] using c3 b hb
  -- the slices as plain data
  have hsnap : SimB X β N w (updsL (look B) ws) ∧ Fr (Own β (look B)) w (Own β (updsL (look B) ws)) w ∧ VRs (All X β (updsL (look B) ws)) β N w as vs := by
    split at hsn
    · simp only [M.run, Option.some.injEq, Prod.mk.injEq] at hsn
      obtain ⟨rfl, rfl⟩ := hsn
      exact ⟨hS, Fr.refl _ _, hv⟩
    · obtain ⟨a1, a2, a3, _⟩ := snapL_sound args as ws vs (look B) hS (Cl.refl _) hsn hv
      exact ⟨a1, a2, a3⟩
  obtain ⟨hS1, hF1, hv1⟩ := hsnap
  have hLB : ∀ b, b ∈ rs → updsL (look B) ws b = look B b := by
    intro b hb
    simp only [List.all_eq_true, Bool.not_eq_true', List.contains_eq_mem, decide_eq_false_iff_not] at hdis
    exact updsL_other _ _ (hdis b hb)
  generalize hL1 : updsL (look B) ws = L1 at hS1 hF1 hv1 hLB
  -- what the callee sees
  have ownLt : ∀ {L : Looks}, SimB X β N w L → ∀ c, Own β L c → c < w.heap.size := by
    rintro L h c ⟨b, h1, h2⟩
    exact h.lt (fun e => by rw [e] at h1; simp [Box.live] at h1) h2
  obtain ⟨hSc, hlen, hownc, hnd, hgetc⟩ := pick_sound (X' := fun c => All X β L1 c ∧ ¬ Own (pickMap β rs) (look sub) c) hS1 hLB hpk (fun c h => h.1) (fun c h => h.1.elim (hS1.old c) (ownLt hS1 c)) (fun c h h' => h'.2 h)
  have hownL1 : ∀ c, Own (pickMap β rs) (look sub) c → Own β L1 c := fun c h => by obtain ⟨b, _, h1, h2⟩ := hownc c h; exact ⟨b, h1, h2⟩
  have hv2 : VRs (All (fun c => All X β L1 c ∧ ¬ Own (pickMap β rs) (look sub) c) (pickMap β rs) (look sub)) (pickMap β rs) (· < rs.length) w as' vs :=
    VRs.ren (X := All X β L1) (β := β) (β' := pickMap β rs) (N := N) (N' := (· < rs.length)) (idxIn rs) (fun b b' h hN => pick_names b b' h hN) (by
      rintro c (h | h)
      · exact h.1
      · exact .inr (hownL1 c h)) as as' vs has' hv1
  rw [← hlen] at hSc hv2
  obtain ⟨hfn, hle, hcalls⟩ := hok f as' sub r B1 hcall
  refine ⟨hfn, (hcalls _ _ w vs hSc hv2).mono ?_⟩
  rintro e w' ⟨v, β1, rfl, hS2, hrv, hF2, hβ1⟩
  refine ⟨v, rfl, ?_⟩
  -- the names
  have hksl : ks.length = B1.length := by rw [← hks]; simp; omega
  have hknd : ks.Nodup := by
    rw [← hks, List.nodup_append]
    refine ⟨hnd, ?_, ?_⟩
    · rw [List.nodup_iff_pairwise_ne, List.pairwise_map]
      exact (List.nodup_iff_pairwise_ne.1 List.nodup_range).imp fun h => by omega
    · intro a ha b hb
      obtain ⟨j, _, rfl⟩ := List.mem_map.1 hb
      have := c3' a ha
      omega
  have hkget : ∀ i b, ks[i]? = some b → (i < rs.length ∧ rs[i]? = some b) ∨ (rs.length ≤ i ∧ i < B1.length ∧ b = al + (i - rs.length)) := by
    intro i b hb
    rw [← hks, List.getElem?_append] at hb
    split at hb
    · rename_i h; exact .inl ⟨h, hb⟩
    · rename_i h
      rw [List.getElem?_map, Option.map_eq_some_iff] at hb
      obtain ⟨j, hj, rfl⟩ := hb
      rw [List.getElem?_eq_some_iff] at hj
      obtain ⟨h1, h2⟩ := hj
      simp at h1 h2
      exact .inr ⟨by omega, by omega, by omega⟩
  generalize hnn : B1.length - rs.length = nn at hks
  have hnroom : nn ≤ room := by omega
  let β2 : Map := fun b => if al ≤ b ∧ b < al + nn then β1 (rs.length + (b - al)) else β b
  let N2 : Nat → Prop := fun b => N b ∨ (al ≤ b ∧ b < al + nn)
  have hfresh : ∀ b, N b → ¬ (al ≤ b ∧ b < al + nn) := by
    intro b hN h
    have := hal (b - al) (by omega)
    rw [show al + (b - al) = b by omega] at this
    exact this hN
  have hN2 : ∀ b, N b → N2 b ∧ β2 b = β b := fun b hb => ⟨.inl hb, if_neg (hfresh b hb)⟩
  have hkβ : ∀ i b, ks[i]? = some b → β2 b = β1 i := by
    intro i b hb
    rcases hkget i b hb with ⟨h1, h2⟩ | ⟨h1, h2, rfl⟩
    · have hlt := c3' b (List.mem_of_getElem? h2)
      show (if al ≤ b ∧ b < al + nn then _ else _) = _
      rw [if_neg (by omega), hβ1 i (by omega)]
      simp [pickMap, h2]
    · show (if al ≤ al + (i - rs.length) ∧ al + (i - rs.length) < al + nn then _ else _) = _
      rw [if_pos (by omega)]
      congr 1
      omega
  obtain ⟨hB1l, hB1g⟩ := renBoxes_get _ _ _ hB1'
  have hB1get : ∀ i b, ks[i]? = some b → (look B1 i).ren (fun i => ks[i]?) = some (look B1' i) := by
    intro i b hb
    have hi : i < B1.length := by have := (List.getElem?_eq_some_iff.1 hb).1; omega
    obtain ⟨x', h1, h2⟩ := hB1g i (look B1 i) (by simp [look, List.getD_eq_getElem?_getD, List.getElem?_eq_getElem hi])
    rw [h1]
    simp [look, List.getD_eq_getElem?_getD, h2]
  -- the boxes behind the call: L0 where nothing is named
  have fin : ∀ (L0 : Looks), SimB X β N w L0 → (∀ b, b ∈ rs → L0 b = look B b) → (∀ c, Own β L0 c → Own β (look B) c) → (∀ c, Own β L1 c → Own β L0 c) →
      (∀ (Y : Blocks), (∀ c, Y c → X c ∨ (Own β L0 c ∧ ¬ Own (pickMap β rs) (look sub) c) ∨ Own β1 (look B1) c) → VR Y β1 (· < B1.length) w' r v ∧ ∀ i, BoxR Y β1 (· < B1.length) w' i (look B1 i)) →
      Step X β N w (look B) al (updsL L0 (ks.zip B1')) r' v w' := by
    intro L0 hS0 hL0 hO0 hO1 hY
    obtain ⟨z1, z2⟩ := updsL_zip ks B1' L0 hknd (by omega)
    generalize updsL L0 (ks.zip B1') = L2 at z1 z2
    have ownc : ∀ c, Own (pickMap β rs) (look sub) c → ∃ b, b ∈ rs ∧ (L0 b).live = true ∧ β b = some c := by
      intro c h
      obtain ⟨b, h1, h2, h3⟩ := hownc c h
      exact ⟨b, h1, by rw [hL0 b h1, ← hLB b h1]; exact h2, h3⟩
    have own1 : ∀ c, c < w.heap.size → Own β1 (look B1) c → Own (pickMap β rs) (look sub) c := fun c hc h => Classical.byContradiction fun hn => (hF2.blk c hc hn).1 h
    have mem_ks : ∀ b, b ∈ rs → b ∈ ks := fun b hb => by rw [← hks]; exact List.mem_append_left _ hb
    have kof : ∀ b, b ∈ ks → ∃ i, ks[i]? = some b := fun b hb => List.mem_iff_getElem?.1 hb
    have own2 : ∀ c, Own β2 L2 c → (∃ i b, ks[i]? = some b ∧ (look B1 i).live = true ∧ β1 i = some c) ∨ (∃ b, b ∉ ks ∧ (L0 b).live = true ∧ β b = some c) := by
      rintro c ⟨b, h1, h2⟩
      by_cases hb : b ∈ ks
      · obtain ⟨i, hi⟩ := kof b hb
        rw [z1 i b hi, Box.ren_live (hB1get i b hi)] at h1
        exact .inl ⟨i, b, hi, h1, by rw [← hkβ i b hi]; exact h2⟩
      · rw [z2 b hb] at h1
        have hNb := hS0.dom b (fun e => by rw [e] at h1; simp [Box.live] at h1)
        exact .inr ⟨b, hb, h1, by rw [← (hN2 b hNb).2]; exact h2⟩
    have own2' : ∀ c, Own β2 L2 c → Own β1 (look B1) c ∨ (Own β L0 c ∧ ¬ Own (pickMap β rs) (look sub) c) := by
      intro c h
      rcases own2 c h with ⟨i, b, hi, h1, h2⟩ | ⟨b, hb, h1, h2⟩
      · exact .inl ⟨i, h1, h2⟩
      · refine .inr ⟨⟨b, h1, h2⟩, fun hc => ?_⟩
        obtain ⟨b', g1, g2, g3⟩ := ownc c hc
        have := hS0.inj b b' c h1 g2 h2 g3
        subst this
        exact hb (mem_ks b g1)
    have all2 : ∀ c, c < w.heap.size → All X β2 L2 c → All X β L0 c := by
      rintro c hc (h | h)
      · exact .inl h
      · rcases own2' c h with h | ⟨h, _⟩
        · obtain ⟨b, _, g2, g3⟩ := ownc c (own1 c hc h); exact .inr ⟨b, g2, g3⟩
        · exact .inr h
    have notc : ∀ c, ¬ All X β L0 c → ¬ Own (pickMap β rs) (look sub) c := fun c h hc => by
      obtain ⟨b, _, g2, g3⟩ := ownc c hc; exact h (.inr ⟨b, g2, g3⟩)
    have mv : Mv (All X β L0) β N w (All X β2 L2) β2 N2 w' := ⟨hF2.size, fun c hc h => ⟨fun h' => h (all2 c hc h'), (hF2.blk c hc (notc c h)).2⟩, hF2.shape, fun b h => (hN2 b h).1, fun b h => (hN2 b h).2⟩
    obtain ⟨hrY, hbY⟩ := hY (All X β2 L2) (fun c h => Or.elim h .inl fun h => .inr ((own2' c h).elim .inr .inl))
    have hback : ∀ i b, ks[i]? = some b → i < B1.length → N2 b ∧ β2 b = β1 i := by
      intro i b hi _
      refine ⟨?_, hkβ i b hi⟩
      rcases hkget i b hi with ⟨h1, h2⟩ | ⟨h1, h2, rfl⟩
      · refine .inl (hS.dom b fun hd => ?_)
        have := c4 b (List.mem_of_getElem? h2)
        rw [hd] at this
        simp [Box.isDead] at this
      · exact .inr (by omega)
    have hFr : Fr (Own β (look B)) w (Own β2 L2) w' := by
      refine ⟨hF2.os, hF2.tape, hF2.output, hF2.size, fun c hc ho => ⟨fun h => ?_, (hF2.blk c hc fun h => ho ?_).2⟩, hF2.shape⟩
      · rcases own2' c h with h | ⟨h, _⟩
        · obtain ⟨q, _, g2, g3⟩ := ownc c (own1 c hc h); exact ho (hO0 c ⟨q, g2, g3⟩)
        · exact ho (hO0 c h)
      · obtain ⟨q, _, g2, g3⟩ := ownc c h; exact hO0 c ⟨q, g2, g3⟩
    refine ⟨β2, N2, ⟨?_, ?_, ?_, ?_, ?_, hS.tabs' hFr⟩, VR.ren (fun i => ks[i]?) (fun i b hi hl => hback i b hi hl) (fun c h => h) r r' v hr1' hrY, hFr, hN2, ?_⟩
    · intro c h hx
      have hc := hS.old c hx
      rcases own2' c h with h | ⟨h, _⟩
      · exact hS1.apart c (hownL1 c (own1 c hc h)) hx
      · exact hS0.apart c h hx
    · intro b b' c l1 l2 e1 e2
      have cross : ∀ i b, ks[i]? = some b → (look B1 i).live = true → β1 i = some c → ∀ b', b' ∉ ks → (L0 b').live = true → β b' = some c → False := by
        intro i b hi h1 h2 b' hb' h3 h4
        have hc := ownLt hS0 c ⟨b', h3, h4⟩
        obtain ⟨q, g1, g2, g3⟩ := ownc c (own1 c hc ⟨i, h1, h2⟩)
        have := hS0.inj b' q c h3 g2 h4 g3
        subst this
        exact hb' (mem_ks b' g1)
      have side : ∀ b, (L2 b).live = true → β2 b = some c → (∃ i, ks[i]? = some b ∧ (look B1 i).live = true ∧ β1 i = some c) ∨ (b ∉ ks ∧ (L0 b).live = true ∧ β b = some c) := by
        intro b h1 h2
        by_cases hb : b ∈ ks
        · obtain ⟨i, hi⟩ := kof b hb
          rw [z1 i b hi, Box.ren_live (hB1get i b hi)] at h1
          exact .inl ⟨i, hi, h1, by rw [← hkβ i b hi]; exact h2⟩
        · rw [z2 b hb] at h1
          have hNb := hS0.dom b (fun e => by rw [e] at h1; simp [Box.live] at h1)
          exact .inr ⟨hb, h1, by rw [← (hN2 b hNb).2]; exact h2⟩
      rcases side b l1 e1 with ⟨i, hi, h1, h2⟩ | ⟨hb, h1, h2⟩ <;> rcases side b' l2 e2 with ⟨j, hj, h3, h4⟩ | ⟨hb', h3, h4⟩
      · have := hS2.inj i j c h1 h3 h2 h4
        subst this
        rw [hi] at hj
        exact Option.some.inj hj
      · exact (cross i b hi h1 h2 b' hb' h3 h4).elim
      · exact (cross j b' hj h3 h4 b hb h1 h2).elim
      · exact hS0.inj b b' c h1 h3 h2 h4
    · intro b
      by_cases hb : b ∈ ks
      · obtain ⟨i, hi⟩ := kof b hb
        rw [z1 i b hi]
        exact BoxR.ren (f := fun i => ks[i]?) (β := β1) (N := (· < B1.length)) (fun i b hi hl => hback i b hi hl) (fun c h => h) (hB1get i b hi) (hkβ i b hi) (hbY i)
      · rw [z2 b hb]
        by_cases hd : L0 b = .dead
        · rw [hd]; trivial
        · refine (hS0.box b).move mv (hS0.dom b hd) fun c hc hne => (hF2.blk c (hS0.lt hd hc) fun ho => ?_).2
          obtain ⟨q, g1, g2, g3⟩ := ownc c ho
          cases hq : (L0 b).live with
          | true =>
            have := hS0.inj b q c hq g2 hc g3
            subst this
            exact hb (mem_ks b g1)
          | false =>
            have hbx := hS0.box b
            cases hL : L0 b with
            | dead => exact hd hL
            | cells l => rw [hL] at hq; simp [Box.live] at hq
            | keys t l => rw [hL] at hq; simp [Box.live] at hq
            | arr t l m =>
              rw [hL] at hq hbx
              obtain ⟨_, hbx⟩ := hbx
              rcases hbx with ⟨g, _⟩ | ⟨c', a1, e1, k1, k2, k3, k4, _⟩
              · rw [hc] at g; cases g
              · rw [hc] at k1
                cases k1
                exact k4.1 (by simpa [Box.live] using hq) (.inr ⟨q, g2, g3⟩)
    · intro b hd
      by_cases hb : b ∈ ks
      · obtain ⟨i, hi⟩ := kof b hb
        exact (hback i b hi (by have := (List.getElem?_eq_some_iff.1 hi).1; omega)).1
      · rw [z2 b hb] at hd
        exact (hN2 b (hS0.dom b hd)).1
    · intro c hc
      exact Nat.lt_of_lt_of_le (hS.old c hc) hF2.size
    · rintro b (hb | hb)
      · exact .inl hb
      · refine .inr ⟨hb.1, by omega, ?_⟩
        have hlt : rs.length + (b - al) < B1.length := by omega
        have hk : ks[rs.length + (b - al)]? = some b := by
          rw [← hks, List.getElem?_append_right (by omega), List.getElem?_map, show rs.length + (b - al) - rs.length = b - al by omega, List.getElem?_range (by omega)]
          simp
          omega
        rw [z1 _ b hk]
        intro hd
        have hg := hB1get _ b hk
        rw [hd] at hg
        have hx := c5 (look B1 (rs.length + (b - al))) (by
          rw [List.mem_iff_getElem?]
          exact ⟨b - al, by rw [List.getElem?_drop]; simp [look, List.getD_eq_getElem?_getD, List.getElem?_eq_getElem hlt]⟩)
        cases hq : look B1 (rs.length + (b - al)) with
        | dead => rw [hq] at hx; simp [Box.isDead] at hx
        | cells l => rw [hq] at hg; simp only [Box.ren] at hg; split at hg <;> simp at hg
        | arr t l m => rw [hq] at hg; simp [Box.ren] at hg
        | keys t l => rw [hq] at hg; simp [Box.ren] at hg
  rw [updsL_append]
  split
  · rename_i hflat
    simp only [Bool.and_eq_true, List.all_eq_true] at hflat
    refine fin (look B) hS (fun _ _ => rfl) (fun _ h => h) (fun c h => ?_) fun Y _ => ⟨VR.flat r v hflat.1 hrv, fun i => ?_⟩
    · exact Classical.byContradiction fun hn => (hF1.blk c (ownLt hS1 c h) hn).1 h
    · by_cases hi : i < B1.length
      · exact (hS2.box i).flat (hflat.2 _ (by simp [look, List.getD_eq_getElem?_getD, List.getElem?_eq_getElem hi]))
      · have : look B1 i = .dead := by unfold look; rw [List.getD_eq_getElem?_getD, List.getElem?_eq_none (by omega)]; rfl
        rw [this]; trivial
  · rw [hL1]
    refine fin L1 hS1 hLB (fun c h => Classical.byContradiction fun hn => (hF1.blk c (ownLt hS1 c h) hn).1 h) (fun _ h => h) fun Y hY => ?_
    have hsub : ∀ c, Y c → All (fun c => All X β L1 c ∧ ¬ Own (pickMap β rs) (look sub) c) β1 (look B1) c := by
      intro c h
      rcases hY c h with h | ⟨h, h2⟩ | h
      · exact .inl ⟨.inl h, fun ho => hS1.apart c (hownL1 c ho) h⟩
      · exact .inl ⟨.inr h, h2⟩
      · exact .inr h
    have mv : Mv (All (fun c => All X β L1 c ∧ ¬ Own (pickMap β rs) (look sub) c) β1 (look B1)) β1 (· < B1.length) w' Y β1 (· < B1.length) w' :=
      ⟨Nat.le_refl _, fun c _ h => ⟨fun h' => h (hsub c h'), rfl⟩, fun c arr e fz h => ⟨arr, fz, h, rfl⟩, fun _ h => h, fun _ _ => rfl⟩
    refine ⟨hrv.move mv, fun i => ?_⟩
    by_cases hd : look B1 i = .dead
    · rw [hd]; trivial
    · exact (hS2.box i).move mv (hS2.dom i hd) fun _ _ _ => rfl

end
end Go.Ev
namespace Go.Ev
set_option linter.unusedVariables false
set_option linter.unusedSimpArgs false
set_option linter.unusedSectionVars false
variable [Ctx]

structure SimA (X : Blocks) (β : Map) (N : Nat → Prop) (w : World) (env : Env) (a : Act) (B : Boxes) : Prop where
  heap : SimB X β N w (look B)
  len : env.length = a.tmps.size
  slot : ∀ i, VR (All X β (look B)) β N w (env.getD i .top) (a.tmps.getD i undef)

def After (X : Blocks) (β : Map) (N : Nat → Prop) (w : World) (B : Boxes) (al : Nat) (d : List Deferred) (env' : Env) (B' : Boxes) (a' : Act) (w' : World) : Prop :=
  ∃ β' N', SimA X β' N' w' env' a' B' ∧ a'.defers = d ∧ Fr (Own β (look B)) w (Own β' (look B')) w' ∧ (∀ b, N b → N' b ∧ β' b = β b) ∧ (∀ b, N' b → N b ∨ (al ≤ b ∧ b < al + room ∧ look B' b ≠ .dead))

section
variable {P : Program} [TagOK P] {X : Blocks} {β : Map} {N : Nat → Prop} {w : World} {al : Nat} {env env' : Env} {a : Act} {B B' : Boxes}

theorem SimA.put (h : SimA X β N w env a B) {dst : Option Nat} {val : AV} {v : Value} {w' : World} (st : Step X β N w (look B) al (look B') val v w') :
    After X β N w B al a.defers (setD env dst val) B' (a.put dst v) w' := by
  obtain ⟨β', N', s1, s2, s3, s4, s5⟩ := st
  have mv := mv_of (X := X) s3 s4
  refine ⟨β', N', ⟨s1, ?_, ?_⟩, ?_, s3, s4, s5⟩
  · cases dst with
    | none => exact h.len
    | some d => simp [setD, Act.put, h.len]
  · intro i
    cases dst with
    | none => exact (h.slot i).move mv
    | some d =>
      simp only [setD, Act.put]
      by_cases e : i = d
      · subst e
        by_cases hlt : i < env.length
        · have e1 : (env.set i val).getD i .top = val := by simp [List.getD_eq_getElem?_getD, hlt]
          have e2 : (a.tmps.setIfInBounds i v).getD i undef = v := by simp [Array.getD_eq_getD_getElem?, ← h.len, hlt]
          rw [e1, e2]; exact s2
        · have e1 : (env.set i val).getD i .top = .top := by simp [List.getD_eq_getElem?_getD, List.getElem?_eq_none (by simp; omega : (env.set i val).length ≤ i)]
          rw [e1]; exact VR.top_iff.2 trivial
      · have e1 : (env.set d val).getD i .top = env.getD i .top := by simp [List.getD_eq_getElem?_getD, List.getElem?_set, Ne.symm e]
        have e2 : (a.tmps.setIfInBounds d v).getD i undef = a.tmps.getD i undef := by simp [Array.getD_eq_getD_getElem?, Array.getElem?_setIfInBounds, Ne.symm e]
        rw [e1, e2]; exact (h.slot i).move mv
  · cases dst <;> rfl

theorem exec_enter {o : Oper} {c : Call} {x : Operand} {f : FuncId} {caps : Array Value} {ρ : Operand → Value} (ho : o.op = .call c) (hc : c.callee = .value x) (hx : ρ x = .func (.func f) #[] caps) {fn : Func} (hf : P.funcs[f]? = some fn) (hb : fn.body.isNone = false) (hn : (fn.name == "runtime.NumGoroutine") = false) :
    (execOp ρ o).run P w = .ok (.enter f (c.args.map ρ ++ caps)) w := by
  have hn' : ¬ fn.name = "runtime.NumGoroutine" := by simpa using hn
  have hb' : ¬ fn.body = none := by intro e; rw [e] at hb; simp at hb
  simp [execOp, ho, resolve, hc, hx, Deferred.ofValue, invoke, callFunc, hf, hb', hn']

theorem yielded_of {ops : Array Oper} {j d : Nat} {tmps : Array Value} (h : (ops[j]?).bind (·.dst) = some d) : yielded ops tmps j = match tmps.getD d undef with | .bool b => some b | _ => none := by
  unfold yielded
  rw [h]
  simp only [Option.bind_some, Array.getD_eq_getD_getElem?]
  cases tmps[d]? with
  | none => rfl
  | some v => cases v <;> rfl

theorem calls_of {o : Oper} {op : AOp} {xs : List Operand} (h : compOp P o = some (op, xs)) (hcl : op.calls = true) :
    ∃ c, o.op = .call c ∧ ((∃ f, c.callee = .value (.func f) ∧ op = .call f ∧ xs = c.args.toList) ∨ (∃ t, c.callee = .value (.tmp t) ∧ op = .callv ∧ xs = .tmp t :: c.args.toList)) := by
  cases hop : o.op with
  | call c =>
    refine ⟨c, rfl, ?_⟩
    simp only [compOp, hop] at h
    split at h
    · rename_i f hcal
      split at h
      · simp only [Option.some.injEq, Prod.mk.injEq] at h
        obtain ⟨rfl, _⟩ := h
        simp [AOp.calls] at hcl
      · split at h
        · simp only [Option.some.injEq, Prod.mk.injEq] at h
          obtain ⟨rfl, _⟩ := h
          simp [AOp.calls] at hcl
        · simp only [Option.some.injEq, Prod.mk.injEq] at h
          exact .inl ⟨f, hcal, h.1.symm, h.2.symm⟩
    · rename_i t hcal
      simp only [Option.some.injEq, Prod.mk.injEq] at h
      exact .inr ⟨t, hcal, h.1.symm, h.2.symm⟩
    all_goals exfalso
    all_goals (repeat' split at h)
    all_goals first | (cases h; done) | (simp only [Option.some.injEq, Prod.mk.injEq] at h; obtain ⟨rfl, _⟩ := h; simp [AOp.calls] at hcl; done)
  | _ =>
    exfalso
    simp only [compOp, hop] at h
    (repeat' split at h)
    all_goals first | contradiction | (cases h; done) | (simp only [Option.some.injEq, Prod.mk.injEq] at h; obtain ⟨rfl, _⟩ := h; first | contradiction | (simp [AOp.calls] at hcl; done))

theorem evOper_sound {byref : FuncId → Bool} {call : Caller} {ops : Array Oper} {o : Oper} {ao : AOper} {rs ws : List Nat} {K : Act → World → Prop} {Q : Exit → Act → World → Prop} (hc : compOper P ops o = some ao) (hok : CallOK P call)
    (hS : SimA X β N w env a B) (hal : ∀ j, j < room → ¬ N (al + j)) (hr : (evOper byref call ao env B al).run = some (env', B', rs, ws)) (hK : ∀ a' w', After X β N w B al a.defers env' B' a' w' → K a' w') :
    if Region.wanted o (yielded ops a.tmps) = true then o.wp P a w K Q else K (a.put o.dst undef) w := by
  unfold compOper at hc
  split at hc
  · rename_i g hg
    simp only [Option.some.injEq] at hc
    subst hc
    -- the operation itself
    have run : ∀ res, (evOp byref call (compB P o).1 ((compB P o).2.map (rdA env)) B al).run = some res → env' = setD env o.dst res.val → B' = upd B res.writes → o.wp P a w K Q := by
      rintro res hres rfl rfl
      unfold compB at hres
      split at hres
      · rename_i op xs hop
        split at hres
        · rename_i as has
          simp only at hres
          have hargs := compArgs_VR (P := P) a env hS.slot xs as has
          cases hcl : op.calls with
          | false =>
            have hd := evOp_does hop hcl hS.heap (by simpa using hal 0 (by simp [room])) hargs (fun u => rfl) (fun f => rfl) hres
            refine hd.wp fun v w' st => hK _ _ (hS.put ?_)
            rw [look_upd]; exact st
          | true =>
            -- a call
            have fin : ∀ (f : FuncId) (args : List AV) (vs : List Value), (evCallOp byref call f args B al).run = some res → VRs (All X β (look B)) β N w args vs →
                (∀ fn, P.funcs[f]? = some fn → fn.body.isNone = false → (fn.name == "runtime.NumGoroutine") = false → (execOp a.eval o).run P w = .ok (.enter f vs.toArray) w) → o.wp P a w K Q := by
              intro f args vs he hvs hex
              obtain ⟨⟨fn, h1, h2, h3⟩, hcalls⟩ := evCallOp_sound hok he hS.heap hal hvs
              unfold Oper.wp
              rw [hex fn h1 h2 h3, Oper.upon_enter]
              refine hcalls.mono ?_
              rintro e w' ⟨v, rfl, st⟩
              exact hK _ _ (hS.put (by rw [look_upd]; exact st))
            obtain ⟨c, hoo, ⟨f, hcal, rfl, rfl⟩ | ⟨t, hcal, rfl, rfl⟩⟩ := calls_of hop hcl
            · refine fin f _ _ hres hargs fun fn h1 h2 h3 => ?_
              have := exec_enter (P := P) (w := w) (ρ := a.eval) (caps := #[]) hoo hcal rfl h1 h2 h3
              rw [this]
              congr 2
              apply Array.ext'
              simp
            · cases hav : as.map (rdA env) with
              | nil => rw [hav] at hres; simp [evOp, M.run] at hres
              | cons z zs =>
                rw [hav] at hres hargs
                obtain ⟨v0, vs, e, hz, hzs⟩ := VRs.cons hargs
                simp only [List.map_cons, List.cons.injEq] at e
                obtain ⟨e1, e2⟩ := e
                cases z with
                | fn f caps =>
                  simp only [evOp] at hres
                  obtain ⟨cv, h4, h5⟩ := VR.fn_iff.1 hz
                  refine fin f (zs ++ caps) (vs ++ cv.toList) hres ?_ fun fn h1 h2 h3 => ?_
                  · have l1 := VRs.len _ _ hzs
                    have l2 := VRs.len _ _ h5
                    refine VRs.mk _ _ (by simp [l1]; simpa using l2) fun j x y hx hy => ?_
                    rw [List.getElem?_append] at hx hy
                    split at hx
                    · rename_i hlt
                      rw [if_pos (by omega)] at hy
                      exact VRs.get _ _ hzs j x y hx hy
                    · rename_i hlt
                      rw [if_neg (by omega)] at hy
                      exact VRs.get _ _ h5 _ x y hx (by rw [l1]; exact hy)
                  · have := exec_enter (P := P) (w := w) (ρ := a.eval) (caps := cv) hoo hcal (e1.trans h4) h1 h2 h3
                    rw [this]
                    congr 2
                    apply Array.ext'
                    simp [← e2]
                | _ => simp [evOp, M.run] at hres
        · simp [evOp, M.run] at hres
      · simp [evOp, M.run] at hres
    -- the guard
    have skip : env' = setD env o.dst (.tup []) → B' = B → K (a.put o.dst undef) w := by
      rintro rfl rfl
      exact hK _ _ (hS.put (Step.same hS.heap (VR.tup_iff.2 ⟨#[], rfl, by unfold VRs; trivial⟩)))
    unfold evOper at hr
    cases hgd : o.guard with
    | none =>
      rw [hgd] at hg
      simp only [compGuard, Option.some.injEq] at hg
      subst hg
      simp only at hr
      obtain ⟨res, h1, h2⟩ := run_bind_some hr
      simp only [M.run, Option.some.injEq, Prod.mk.injEq] at h2
      rw [if_pos (by simp [Region.wanted, hgd])]
      exact run res h1 h2.1.symm h2.2.1.symm
    | some p =>
      obtain ⟨j, want⟩ := p
      rw [hgd] at hg
      simp only [compGuard] at hg
      split at hg
      · rename_i d hd
        simp only [Option.some.injEq] at hg
        subst hg
        simp only at hr
        have hy := yielded_of (tmps := a.tmps) hd
        have hsl := hS.slot d
        have hwant : Region.wanted o (yielded ops a.tmps) = (yielded ops a.tmps j == some want) := by simp [Region.wanted, hgd]
        split at hr
        · rename_i b hb
          rw [hb] at hsl
          have hv : a.tmps.getD d undef = .bool b := VR.d_iff.1 hsl
          rw [hv] at hy
          simp only at hy
          simp only [M.run] at hr
          rw [hwant, hy]
          by_cases hbw : b = want
          · subst hbw
            simp only [beq_self_eq_true, if_true] at hr ⊢
            obtain ⟨res, h1, h2⟩ := run_bind_some hr
            simp only [M.run, Option.some.injEq, Prod.mk.injEq] at h2
            exact run res h1 h2.1.symm h2.2.1.symm
          · have hne : (b == want) = false := by simpa using hbw
            have hne2 : ((some b : Option Bool) == some want) = false := by simpa using hbw
            simp only [hne, Bool.false_eq_true, if_false, M.run, Option.some.injEq, Prod.mk.injEq] at hr
            rw [hne2]
            simp only [Bool.false_eq_true, if_false]
            exact skip hr.1.symm hr.2.1.symm
        · rename_i hb
          rw [hb] at hsl
          obtain ⟨vs, hv, hvs⟩ := VR.tup_iff.1 hsl
          rw [hv] at hy
          simp only at hy
          rw [hwant, hy]
          simp only [M.run, Option.some.injEq, Prod.mk.injEq] at hr
          rw [show ((none : Option Bool) == some want) = false from rfl]
          simp only [Bool.false_eq_true, if_false]
          exact skip hr.1.symm hr.2.1.symm
        · simp [M.run] at hr
      · cases hg
  · cases hc

end
end Go.Ev
namespace Go.Ev
set_option linter.unusedVariables false
set_option linter.unusedSimpArgs false
set_option linter.unusedSectionVars false
variable [Ctx]

section
variable {B B' : Boxes}

theorem run_bind_mk {α β : Type} {m m' : M α} {f f' : α → M β} {a : α} {b : β} (h1 : m'.run = some a) (h2 : (f' a).run = some b) : (m'.bind f').run = some b := by
  rw [M.run_bind, h1]; exact h2

theorem cellsAt_local {p : AV} {n : Nat} {r : List AV × List Nat} (h : (cellsAt B p n).run = some r) (hl : ∀ b, b ∈ r.2 → look B' b = look B b) : (cellsAt B' p n).run = some r := by
  unfold cellsAt at h
  split at h
  · rename_i b off
    split at h
    · rename_i l hb
      obtain ⟨h1, h2⟩ := (M.run_ifb _ _ _).1 h
      simp only [M.run, Option.some.injEq] at h2
      subst h2
      have e := hl b (by simp)
      simp only [cellsAt, e, hb]
      exact h
    · simp [M.run] at h
  · rename_i b i sz off
    split at h
    · rename_i t l m hb
      obtain ⟨h1, h2⟩ := (M.run_ifb _ _ _).1 h
      obtain ⟨h3, h4⟩ := (M.run_chk _ _ _).1 h2
      simp only [M.run, Option.some.injEq] at h4
      subst h4
      have e := hl b (by simp)
      simp only [cellsAt, e, hb]
      exact h
    · simp [M.run] at h
  · exact h
  · simp [M.run] at h

theorem toD_local {a : AV} {r : D × List (Nat × Box)} (h : (toD B a).run = some r) (hl : ∀ b, b ∈ r.2.map (·.1) → look B' b = look B b) : (toD B' a).run = some r := by
  unfold toD at h
  split at h
  · exact h
  · rename_i b off len sz cap
    split at h
    · rename_i t l m hb
      obtain ⟨h1, h2⟩ := (M.run_ifb _ _ _).1 h
      obtain ⟨h3, h4⟩ := (M.run_chk _ _ _).1 h2
      simp only [M.run, Option.some.injEq] at h4
      subst h4
      have e := hl b (by simp)
      simp only [toD, e, hb]
      exact h
    · simp [M.run] at h
  · simp [M.run] at h

theorem toDs_local : ∀ {as : List AV} {r : List D × List (Nat × Box)}, (toDs B as).run = some r → (∀ b, b ∈ r.2.map (·.1) → look B' b = look B b) → (toDs B' as).run = some r
  | [], r, h, _ => h
  | a :: as, r, h, hl => by
    simp only [toDs] at h ⊢
    obtain ⟨⟨x, ws⟩, h1, h2⟩ := run_bind_some h
    obtain ⟨⟨xs, vs⟩, h3, h4⟩ := run_bind_some h2
    simp only [M.run, Option.some.injEq] at h4
    subst h4
    refine run_bind_mk (m := toD B a) (f := fun _ => .fail) (toD_local h1 fun b hb => hl b (by simp at hb ⊢; exact .inl hb)) ?_
    refine run_bind_mk (m := toDs B as) (f := fun _ => .fail) (toDs_local h3 fun b hb => hl b (by simp at hb ⊢; exact .inr hb)) ?_
    rfl

theorem cellsD_local : ∀ {as : List AV} {r : List (List D) × List (Nat × Box)}, (cellsD B as).run = some r → (∀ b, b ∈ r.2.map (·.1) → look B' b = look B b) → (cellsD B' as).run = some r
  | [], r, h, _ => h
  | a :: as, r, h, hl => by
    simp only [cellsD] at h ⊢
    obtain ⟨⟨x, ws⟩, h1, h2⟩ := run_bind_some h
    obtain ⟨⟨xs, vs⟩, h3, h4⟩ := run_bind_some h2
    simp only [M.run, Option.some.injEq] at h4
    subst h4
    refine run_bind_mk (m := toDs B a.cells) (f := fun _ => .fail) (toDs_local h1 fun b hb => hl b (by simp at hb ⊢; exact .inl hb)) ?_
    refine run_bind_mk (m := cellsD B as) (f := fun _ => .fail) (cellsD_local h3 fun b hb => hl b (by simp at hb ⊢; exact .inr hb)) ?_
    rfl

theorem content_local {t : Ty} {a : AV} {r : List t.den × List Nat} (h : (content B t a).run = some r) (hl : ∀ b, b ∈ r.2 → look B' b = look B b) : (content B' t a).run = some r := by
  unfold content at h
  split at h
  · exact h
  · exact h
  · exact h
  · rename_i b off len sz cap
    split at h
    · rename_i t' l m hb
      have e : look B' b = look B b := by
        split at h
        · obtain ⟨h1, h2⟩ := (M.run_ifb _ _ _).1 h
          obtain ⟨h3, h4⟩ := (M.run_chk _ _ _).1 h2
          simp only [M.run, Option.some.injEq] at h4
          subst h4
          exact hl b (by simp)
        · simp [M.run] at h
      simp only [content, e, hb]
      exact h
    · simp [M.run] at h
  · simp [M.run] at h

theorem headOf_local {t : Ty} {a : AV} {r : Nat × List t.den × List Nat} (h : (headOf B t a).run = some r) (hl : ∀ b, b ∈ r.2.2 → look B' b = look B b) : (headOf B' t a).run = some r := by
  unfold headOf at h ⊢
  split at h
  · rename_i b off len sz cap
    split at h
    · rename_i t' l m hb
      obtain ⟨⟨ys, rs⟩, h1, h2⟩ := run_bind_some h
      simp only [M.run, Option.some.injEq] at h2
      subst h2
      have hmem : b ∈ rs := by
        unfold content at h1
        simp only [hb] at h1
        split at h1
        · obtain ⟨_, h3⟩ := (M.run_ifb _ _ _).1 h1
          obtain ⟨_, h4⟩ := (M.run_chk _ _ _).1 h3
          simp only [M.run, Option.some.injEq, Prod.mk.injEq] at h4
          rw [← h4.2]
          simp
        · simp [M.run] at h1
      have e : look B' b = look B b := hl b hmem
      simp only [e, hb]
      exact run_bind_mk (m := M.ret (ys, rs)) (f := fun _ => .fail) (content_local h1 hl) rfl
    · simp [M.run] at h
  · obtain ⟨⟨ys, rs⟩, h1, h2⟩ := run_bind_some h
    simp only [M.run, Option.some.injEq] at h2
    subst h2
    exact run_bind_mk (m := M.ret (ys, rs)) (f := fun _ => .fail) (content_local h1 hl) rfl

mutual
theorem snap_local : ∀ (a : AV) {r : AV × List (Nat × Box)}, (snap B a).run = some r → (∀ b, b ∈ r.2.map (·.1) → look B' b = look B b) → (snap B' a).run = some r
  | .sr b off len sz cap, r, h, hl => by
    unfold snap at h ⊢
    obtain ⟨⟨x, ws⟩, h1, h2⟩ := run_bind_some h
    simp only [M.run, Option.some.injEq] at h2
    subst h2
    exact run_bind_mk (m := M.ret (x, ws)) (f := fun _ => .fail) (toD_local h1 hl) rfl
  | .agg cs, r, h, hl => by
    unfold snap at h ⊢
    obtain ⟨⟨x, ws⟩, h1, h2⟩ := run_bind_some h
    simp only [M.run, Option.some.injEq] at h2
    subst h2
    exact run_bind_mk (m := M.ret (x, ws)) (f := fun _ => .fail) (snapL_local cs h1 hl) rfl
  | .tup cs, r, h, hl => by
    unfold snap at h ⊢
    obtain ⟨⟨x, ws⟩, h1, h2⟩ := run_bind_some h
    simp only [M.run, Option.some.injEq] at h2
    subst h2
    exact run_bind_mk (m := M.ret (x, ws)) (f := fun _ => .fail) (snapL_local cs h1 hl) rfl
  | .fn g cs, r, h, hl => by
    unfold snap at h ⊢
    obtain ⟨⟨x, ws⟩, h1, h2⟩ := run_bind_some h
    simp only [M.run, Option.some.injEq] at h2
    subst h2
    exact run_bind_mk (m := M.ret (x, ws)) (f := fun _ => .fail) (snapL_local cs h1 hl) rfl
  | .top, r, h, hl => by unfold snap at h ⊢; exact h
  | .d x, r, h, hl => by unfold snap at h ⊢; exact h
  | .ptr .., r, h, hl => by unfold snap at h ⊢; exact h
  | .eptr .., r, h, hl => by unfold snap at h ⊢; exact h
  | .cptr .., r, h, hl => by unfold snap at h ⊢; exact h
  | .snil .., r, h, hl => by unfold snap at h ⊢; exact h
  | .ifc .., r, h, hl => by unfold snap at h ⊢; exact h
  | .mp .., r, h, hl => by unfold snap at h ⊢; exact h
theorem snapL_local : ∀ (as : List AV) {r : List AV × List (Nat × Box)}, (snapL B as).run = some r → (∀ b, b ∈ r.2.map (·.1) → look B' b = look B b) → (snapL B' as).run = some r
  | [], r, h, hl => by unfold snapL at h ⊢; exact h
  | a :: as, r, h, hl => by
    unfold snapL at h ⊢
    obtain ⟨⟨x, ws⟩, h1, h2⟩ := run_bind_some h
    obtain ⟨⟨xs, vs⟩, h3, h4⟩ := run_bind_some h2
    simp only [M.run, Option.some.injEq] at h4
    subst h4
    refine run_bind_mk (m := M.ret (x, ws)) (f := fun _ => .fail) (snap_local a h1 fun b hb => hl b (by simp at hb ⊢; exact .inl hb)) ?_
    refine run_bind_mk (m := M.ret (xs, vs)) (f := fun _ => .fail) (snapL_local as h3 fun b hb => hl b (by simp at hb ⊢; exact .inr hb)) ?_
    rfl
end

theorem reachGo_mem : ∀ (n : Nat) (done todo : List Nat) {b : Nat}, b ∈ done → b ∈ reachGo B n done todo
  | 0, done, todo, b, h => h
  | n + 1, done, [], b, h => h
  | n + 1, done, c :: todo, b, h => by
    simp only [reachGo]
    split
    · exact reachGo_mem n _ _ h
    · exact reachGo_mem n _ _ (by simp [h])

theorem reachGo_local : ∀ (n : Nat) (done todo : List Nat), (∀ b, b ∈ reachGo B n done todo → look B' b = look B b) → reachGo B' n done todo = reachGo B n done todo
  | 0, done, todo, h => rfl
  | n + 1, done, [], h => rfl
  | n + 1, done, c :: todo, h => by
    simp only [reachGo] at h ⊢
    split
    · rename_i hc
      rw [if_pos hc] at h
      exact reachGo_local n _ _ h
    · rename_i hc
      rw [if_neg hc] at h
      rw [h c (reachGo_mem n _ _ (by simp))]
      exact reachGo_local n _ _ h

theorem lt_of_look {b : Nat} (h : (look B b).isDead = false) : b < B.length := by
  apply Classical.byContradiction
  intro hn
  simp [look, List.getD_eq_getElem?_getD, List.getElem?_eq_none (Nat.not_lt.1 hn), Box.isDead] at h

theorem evCallOp_local {byref : FuncId → Bool} {call : Caller} {f : FuncId} {args : List AV} {al : Nat} {res : Res} (h : (evCallOp byref call f args B al).run = some res) (hl : ∀ b, b ∈ res.reads → look B' b = look B b) :
    (evCallOp byref call f args B' al).run = some res := by
  unfold evCallOp at h ⊢
  obtain ⟨⟨as, ws⟩, h1, h2⟩ := run_bind_some h
  simp only at h2
  obtain ⟨as', h3, h4⟩ := run_bind_some h2
  obtain ⟨sub, h5, h6⟩ := run_bind_some h4
  obtain ⟨h7, h8⟩ := (M.run_ifb _ _ _).1 h6
  obtain ⟨⟨r, B1⟩, h9, h10⟩ := run_bind_some h8
  simp only at h10
  obtain ⟨h11, h12⟩ := (M.run_ifb _ _ _).1 h10
  obtain ⟨r', h13, h14⟩ := run_bind_some h12
  obtain ⟨B1', h15, h16⟩ := run_bind_some h14
  simp only [M.run, Option.some.injEq] at h16
  subst h16
  simp only at hl
  have hr : ∀ b, b ∈ reachGo B 1000 [] (AV.refs.refsL as) → look B' b = look B b := fun b hb => hl b (List.mem_append_left _ hb)
  have e1 := reachGo_local 1000 [] (AV.refs.refsL as) hr
  have e2 : (if byref f then M.ret (args, []) else snapL B' args).run = some (as, ws) := by
    split
    · rename_i hb; rw [if_pos hb] at h1; exact h1
    · rename_i hb; rw [if_neg hb] at h1; exact snapL_local args h1 fun b hb => hl b (List.mem_append_right _ hb)
  have hd : ∀ b, b ∈ reachGo B 1000 [] (AV.refs.refsL as) → (look B b).isDead = false := by
    simp only [Bool.and_eq_true, List.all_eq_true] at h11
    intro b hb
    simpa using h11.1.2 b hb
  have e3 : (pickBoxes B' (reachGo B 1000 [] (AV.refs.refsL as))).run = some sub := by
    unfold pickBoxes at h5 ⊢
    obtain ⟨h17, h18⟩ := (M.run_ifb _ _ _).1 h5
    refine (M.run_ifb _ _ _).2 ⟨?_, ?_⟩
    · simp only [Bool.and_eq_true, List.all_eq_true] at h17 ⊢
      refine ⟨h17.1, fun b hb => ?_⟩
      have : b < B'.length := lt_of_look (B := B') (by rw [hr b hb]; exact hd b hb)
      rw [Nat.blt, Nat.ble_eq]; exact this
    · rw [show (reachGo B 1000 [] (AV.refs.refsL as)).map (look B') = (reachGo B 1000 [] (AV.refs.refsL as)).map (look B) from List.map_congr_left hr]
      exact h18
  refine run_bind_mk (m := M.ret (as, ws)) (f := fun _ => .fail) e2 ?_
  simp only [e1]
  refine run_bind_mk (m := M.ret as') (f := fun _ => .fail) h3 ?_
  refine run_bind_mk (m := M.ret sub) (f := fun _ => .fail) e3 ?_
  refine (M.run_ifb _ _ _).2 ⟨h7, ?_⟩
  refine run_bind_mk (m := M.ret (r, B1)) (f := fun _ => .fail) h9 ?_
  refine (M.run_ifb _ _ _).2 ⟨?_, h12⟩
  rw [← h11]
  congr 2
  rw [Bool.eq_iff_iff]
  simp only [List.all_eq_true]
  constructor
  · intro hh b hb
    rw [← hr b hb]; exact hh b hb
  · intro hh b hb
    rw [hr b hb]; exact hh b hb

theorem evOp_local {byref : FuncId → Bool} {call : Caller} {op : AOp} {args : List AV} {al : Nat} {res : Res} (h : (evOp byref call op args B al).run = some res) (hl : ∀ b, b ∈ res.reads → look B' b = look B b) :
    (evOp byref call op args B' al).run = some res := by
  unfold evOp at h
  split at h
  case h_7 t n ix =>
    obtain ⟨h1, h2⟩ := (M.run_ifb _ _ _).1 h
    obtain ⟨⟨cs, ws⟩, h3, h4⟩ := run_bind_some h2
    obtain ⟨l, h5, h6⟩ := run_bind_some h4
    simp only [M.run, Option.some.injEq] at h6
    subst h6
    unfold evOp
    refine (M.run_ifb _ _ _).2 ⟨h1, ?_⟩
    refine run_bind_mk (m := M.ret (cs, ws)) (f := fun _ => .fail) (cellsD_local h3 hl) ?_
    exact run_bind_mk (m := M.ret l) (f := fun _ => .fail) h5 rfl
  case h_8 agg n p =>
    obtain ⟨⟨cs, rs⟩, h1, h2⟩ := run_bind_some h
    unfold evOp
    refine run_bind_mk (m := M.ret (cs, rs)) (f := fun _ => .fail) (cellsAt_local h1 fun b hb => hl b ?_) h2
    simp only at h2
    split at h2
    · simp only [M.run, Option.some.injEq] at h2
      subst h2; exact hb
    · simp only [M.run, Option.some.injEq] at h2
      subst h2; exact hb
    · simp [M.run] at h2
  case h_9 n p v =>
    obtain ⟨h1, h2⟩ := (M.run_ifb _ _ _).1 h
    unfold evOp
    refine (M.run_ifb _ _ _).2 ⟨h1, ?_⟩
    split at h2
    · rename_i b off
      split at h2
      · rename_i l hb
        have e := hl b (by
          obtain ⟨_, h3⟩ := (M.run_ifb _ _ _).1 h2
          simp only [M.run, Option.some.injEq] at h3
          subst h3
          simp)
        simp only [e, hb]
        exact h2
      · simp [M.run] at h2
    · rename_i b i sz off
      split at h2
      · rename_i t l hb
        obtain ⟨h3, h4⟩ := (M.run_ifb _ _ _).1 h2
        obtain ⟨h5, h6⟩ := (M.run_chk _ _ _).1 h4
        obtain ⟨⟨cs, ws⟩, h7, h8⟩ := run_bind_some h6
        obtain ⟨h9, h10⟩ := (M.run_ifb _ _ _).1 h8
        obtain ⟨x, h11, h12⟩ := run_bind_some h10
        simp only [M.run, Option.some.injEq] at h12
        subst h12
        have e := hl b (by simp)
        simp only [e, hb]
        refine (M.run_ifb _ _ _).2 ⟨h3, (M.run_chk _ _ _).2 ⟨h5, ?_⟩⟩
        refine run_bind_mk (m := M.ret (cs, ws)) (f := fun _ => .fail) (toDs_local h7 fun c hc => hl c (List.mem_cons_of_mem _ hc)) ?_
        exact (M.run_ifb _ _ _).2 ⟨h9, run_bind_mk (m := M.ret x) (f := fun _ => .fail) h11 rfl⟩
      · simp [M.run] at h2
    · simp [M.run] at h2
  case h_23 t bytes x y =>
    obtain ⟨h1, h2⟩ := (M.run_ifb _ _ _).1 h
    obtain ⟨⟨ys, ry⟩, h3, h4⟩ := run_bind_some h2
    simp only at h4
    unfold evOp
    refine (M.run_ifb _ _ _).2 ⟨h1, ?_⟩
    split at h4
    · have key : ∀ c, c ∈ ry → c ∈ res.reads := by
        simp only [M.run] at h4
        cases hd : ys.isEmpty <;> simp only [hd, cond_true, cond_false] at h4
        · obtain ⟨_, h5⟩ := (M.run_chk _ _ _).1 h4
          simp only [M.run, Option.some.injEq] at h5
          subst h5
          exact fun c hc => hc
        · simp only [M.run, Option.some.injEq] at h4
          subst h4
          exact fun c hc => hc
      exact run_bind_mk (m := M.ret (ys, ry)) (f := fun _ => .fail) (content_local h3 fun c hc => hl c (key c hc)) h4
    · rename_i b off len sz cap
      have key : ∀ c, c ∈ b :: ry → c ∈ res.reads := by
        split at h4
        · split at h4
          · obtain ⟨_, h5⟩ := (M.run_ifb _ _ _).1 h4
            obtain ⟨_, h6⟩ := (M.run_chk _ _ _).1 h5
            split at h6
            · obtain ⟨_, h7⟩ := (M.run_ifb _ _ _).1 h6
              obtain ⟨_, h8⟩ := (M.run_chk _ _ _).1 h7
              simp only [M.run, Option.some.injEq] at h8
              subst h8
              exact fun c hc => hc
            · obtain ⟨_, h7⟩ := (M.run_chk _ _ _).1 h6
              simp only [M.run] at h7
              generalize decide (len + ys.length ≤ _) = q at h7
              cases q <;> simp only [cond_true, cond_false] at h7
              · simp only [M.run, Option.some.injEq] at h7
                subst h7
                exact fun c hc => hc
              · obtain ⟨_, h8⟩ := (M.run_ifb _ _ _).1 h7
                simp only [M.run, Option.some.injEq] at h8
                subst h8
                exact fun c hc => hc
          · simp [M.run] at h4
        · simp [M.run] at h4
      refine run_bind_mk (m := M.ret (ys, ry)) (f := fun _ => .fail) (content_local h3 fun c hc => hl c (key c (List.mem_cons_of_mem _ hc))) ?_
      simp only [hl b (key b (List.mem_cons_self ..))]
      exact h4
    · simp [M.run] at h4
  case h_24 n x y =>
    unfold evOp
    split at h
    · rename_i b off len sz cap
      split at h
      · rename_i t l hb
        obtain ⟨h3, h4⟩ := (M.run_ifb _ _ _).1 h
        obtain ⟨h5, h6⟩ := (M.run_chk _ _ _).1 h4
        obtain ⟨⟨m, ys, ry⟩, h7, h8⟩ := run_bind_some h6
        obtain ⟨h9, h10⟩ := (M.run_chk _ _ _).1 h8
        simp only [M.run, Option.some.injEq] at h10
        subst h10
        have e := hl b (by simp)
        simp only [e, hb]
        refine (M.run_ifb _ _ _).2 ⟨h3, (M.run_chk _ _ _).2 ⟨h5, ?_⟩⟩
        exact run_bind_mk (m := M.ret (m, ys, ry)) (f := fun _ => .fail) (headOf_local h7 fun c hc => hl c (List.mem_cons_of_mem _ hc)) ((M.run_chk _ _ _).2 ⟨h9, rfl⟩)
      · simp [M.run] at h
    · simp [M.run] at h
  case h_32 f =>
    unfold evOp
    exact evCallOp_local h hl
  case h_33 f caps as =>
    unfold evOp
    exact evCallOp_local h hl
  case h_34 ty x =>
    unfold evOp
    split at h
    · rename_i b off len sz cap
      split at h
      · rename_i t l hb
        have e := hl b (by
          split at h
          · obtain ⟨_, h3⟩ := (M.run_ifb _ _ _).1 h
            obtain ⟨_, h4⟩ := (M.run_chk _ _ _).1 h3
            simp only [M.run, Option.some.injEq] at h4
            subst h4
            simp
          · simp [M.run] at h)
        simp only [e, hb]
        exact h
      · simp [M.run] at h
    · simp [M.run] at h
  case h_37 x =>
    unfold evOp
    obtain ⟨h0, h⟩ := (M.run_ifb _ _ _).1 h
    obtain ⟨⟨l, rs⟩, h1, h2⟩ := run_bind_some h
    simp only [M.run, Option.some.injEq] at h2
    subst h2
    exact (M.run_ifb _ _ _).2 ⟨h0, run_bind_mk (m := .fail) (f := fun _ => .fail) (content_local h1 hl) rfl⟩
  case h_40 p k n =>
    unfold evOp
    obtain ⟨hk, h2⟩ := (M.run_ifb _ _ _).1 h
    refine (M.run_ifb _ _ _).2 ⟨hk, ?_⟩
    clear h
    split at h2
    · exact h2
    · rename_i b
      split at h2
      · rename_i l hb
        have e := hl b (by
          obtain ⟨_, h4⟩ := (M.run_chk _ _ _).1 h2
          simp only [M.run, Option.some.injEq] at h4
          subst h4
          simp)
        simp only [e, hb]
        exact h2
      · simp [M.run] at h2
    · simp [M.run] at h2
  case h_43 x y =>
    unfold evOp
    split at h
    · rename_i b off la sz cap b' off' lb sz' cap'
      obtain ⟨h1, h2⟩ := (M.run_ifb _ _ _).1 h
      obtain ⟨h3, h4⟩ := (M.run_chk _ _ _).1 h2
      simp only [M.run, Option.some.injEq] at h4
      subst h4
      have e1 := hl b (by simp)
      have e2 := hl b' (by simp)
      simp only [e1, e2]
      exact h
    · simp [M.run] at h
  case h_41 t bytes x k n =>
    unfold evOp
    obtain ⟨h1, h2⟩ := (M.run_ifb _ _ _).1 h
    refine (M.run_ifb _ _ _).2 ⟨h1, ?_⟩
    clear h
    cases x with
    | sr b off len sz cap =>
      cases cap with
      | none => simp [M.run] at h2
      | some k =>
        have e : look B' b = look B b := by
          refine hl b ?_
          simp only at h2
          cases hL : look B b with
          | dead => simp [hL, M.run] at h2
          | cells l => simp [hL, M.run] at h2
          | keys t l => simp [hL, M.run] at h2
          | arr t' l live =>
            rw [hL] at h2
            simp only at h2
            split at h2
            · obtain ⟨_, h3⟩ := (M.run_ifb _ _ _).1 h2
              obtain ⟨_, h4⟩ := (M.run_chk _ _ _).1 h3
              simp only [M.run, Option.some.injEq] at h4
              rw [← h4]
              simp
            · simp [M.run] at h2
        simp only [e]
        exact h2
    | _ => simp [M.run] at h2
  case h_45 t b k =>
    unfold evOp
    have e : look B' b = look B b := by
      refine hl b ?_
      cases hL : look B b with
      | keys t' l =>
        rw [hL] at h
        simp only at h
        split at h
        · obtain ⟨x, h1, h2⟩ := run_bind_some h
          simp only [M.run, Option.some.injEq] at h2
          rw [← h2]
          simp
        · simp [M.run] at h
      | _ => simp [hL, M.run] at h
    simp only [e]
    exact h
  case h_46 t b k =>
    unfold evOp
    have e : look B' b = look B b := by
      refine hl b ?_
      cases hL : look B b with
      | keys t' l =>
        rw [hL] at h
        simp only at h
        split at h
        · obtain ⟨x, h1, h2⟩ := run_bind_some h
          simp only [M.run, Option.some.injEq] at h2
          rw [← h2]
          simp
        · simp [M.run] at h
      | _ => simp [hL, M.run] at h
    simp only [e]
    exact h
  case h_47 b =>
    unfold evOp
    have e : look B' b = look B b := by
      refine hl b ?_
      cases hL : look B b with
      | keys t' l =>
        rw [hL] at h
        simp only [M.run, Option.some.injEq] at h
        rw [← h]
        simp
      | _ => simp [hL, M.run] at h
    simp only [e]
    exact h
  case h_49 => simp [M.run] at h
  all_goals exact h

theorem evOper_local {byref : FuncId → Bool} {call : Caller} {o : AOper} {env env2 : Env} {al : Nat} {env' : Env} {B1 : Boxes} {rs ws : List Nat} (h : (evOper byref call o env B al).run = some (env', B1, rs, ws)) (hl : ∀ b, b ∈ rs → look B' b = look B b)
    (he : ∀ i, i ∈ o.looks → env2.getD i .top = env.getD i .top) :
    ∃ v xs, env' = setD env o.dst v ∧ B1 = upd B xs ∧ ws = xs.map (·.1) ∧ (evOper byref call o env2 B' al).run = some (setD env2 o.dst v, upd B' xs, rs, ws) := by
  have ha : o.args.map (rdA env2) = o.args.map (rdA env) := by
    refine List.map_congr_left fun a ha => ?_
    cases a with
    | val v => rfl
    | tmp i =>
      refine he i ?_
      unfold AOper.looks
      exact List.mem_append_left _ (List.mem_filterMap.2 ⟨_, ha, rfl⟩)
  have one : ∀ {rs : List Nat} {ws : List Nat} {env' : Env} {B1 : Boxes}, ((evOp byref call o.op (o.args.map (rdA env)) B al).bind fun r => M.ret (setD env o.dst r.val, upd B r.writes, r.reads, r.writes.map (·.1))).run = some (env', B1, rs, ws) → (∀ b, b ∈ rs → look B' b = look B b) →
      ∃ v xs, env' = setD env o.dst v ∧ B1 = upd B xs ∧ ws = xs.map (·.1) ∧ ((evOp byref call o.op (o.args.map (rdA env2)) B' al).bind fun r => M.ret (setD env2 o.dst r.val, upd B' r.writes, r.reads, r.writes.map (·.1))).run = some (setD env2 o.dst v, upd B' xs, rs, ws) := by
    intro rs ws env' B1 h hl
    obtain ⟨r, h1, h2⟩ := run_bind_some h
    simp only [M.run, Option.some.injEq, Prod.mk.injEq] at h2
    obtain ⟨rfl, rfl, rfl, rfl⟩ := h2
    refine ⟨r.val, r.writes, rfl, rfl, rfl, ?_⟩
    rw [ha]
    exact run_bind_mk (m := M.ret r) (f := fun _ => .fail) (evOp_local h1 hl) rfl
  unfold evOper at h ⊢
  cases hg : o.guard with
  | none =>
    rw [hg] at h
    exact one h hl
  | some p =>
    obtain ⟨g, want⟩ := p
    rw [hg] at h
    simp only at h ⊢
    have eg : env2.getD g .top = env.getD g .top := he g (by simp [AOper.looks, hg])
    rw [eg]
    split at h
    · rename_i b hb
      simp only [M.run] at h
      split at h
      · rename_i hbw
        obtain ⟨v, xs, h1, h2, h3, h4⟩ := one h hl
        refine ⟨v, xs, h1, h2, h3, ?_⟩
        simp only [M.run, hbw, if_true]
        exact h4
      · rename_i hbw
        simp only [M.run, Option.some.injEq, Prod.mk.injEq] at h
        obtain ⟨rfl, rfl, rfl, rfl⟩ := h
        refine ⟨.tup [], [], rfl, rfl, rfl, ?_⟩
        simp only [M.run, hbw, if_false]
        rfl
    · simp only [M.run, Option.some.injEq, Prod.mk.injEq] at h
      obtain ⟨rfl, rfl, rfl, rfl⟩ := h
      exact ⟨.tup [], [], rfl, rfl, rfl, rfl⟩
    · simp [M.run] at h

end
end Go.Ev
namespace Go.Ev
set_option linter.unusedVariables false
set_option linter.unusedSimpArgs false
set_option linter.unusedSectionVars false
variable [Ctx]

theorem setE_get (B : Boxes) (i : Nat) (x : Box) (k : Nat) : (setE B i x)[k]? = if k = i then some x else if k < B.length then B[k]? else if k < i then some .dead else none := by
  unfold setE
  split
  · rename_i h
    rw [List.getElem?_set]
    by_cases e : i = k
    · subst e; simp [h]
    · simp only [e, if_false, Ne.symm e]
      split
      · rfl
      · rename_i h2
        rw [List.getElem?_eq_none (by omega), if_neg (by omega)]
  · rename_i h
    rw [List.append_assoc, List.getElem?_append]
    split
    · rename_i h2
      rw [if_neg (by omega)]
    · rename_i h2
      rw [List.getElem?_append]
      simp only [List.length_replicate]
      split
      · rename_i h3
        rw [List.getElem?_replicate, if_pos (by omega), if_neg (by omega), if_pos (by omega)]
      · rename_i h3
        by_cases e : k = i
        · subst e; simp
        · rw [if_neg e, if_neg (by omega)]
          exact List.getElem?_eq_none (by simp; omega)

theorem setE_length (B : Boxes) (i : Nat) (x : Box) : (setE B i x).length = max B.length (i + 1) := by
  unfold setE
  split
  · simp; omega
  · simp; omega

theorem setE_comm (B : Boxes) {i j : Nat} (x y : Box) (h : i ≠ j) : setE (setE B i x) j y = setE (setE B j y) i x := by
  apply List.ext_getElem?
  intro k
  simp only [setE_get, setE_length]
  (repeat' split) <;> first | rfl | (exfalso; omega)

theorem upd_cons (B : Boxes) (i : Nat) (x : Box) (ws : List (Nat × Box)) : upd B ((i, x) :: ws) = upd (setE B i x) ws := rfl

theorem upd_setE : ∀ (ws : List (Nat × Box)) (B : Boxes) (i : Nat) (x : Box), i ∉ ws.map (·.1) → upd (setE B i x) ws = setE (upd B ws) i x
  | [], B, i, x, _ => rfl
  | (j, y) :: ws, B, i, x, h => by
    simp only [List.map_cons, List.mem_cons, not_or] at h
    rw [upd_cons, upd_cons, setE_comm B x y h.1]
    exact upd_setE ws _ i x h.2

theorem upd_comm : ∀ (xs ys : List (Nat × Box)) (B : Boxes), (∀ b, b ∈ xs.map (·.1) → b ∉ ys.map (·.1)) → upd (upd B xs) ys = upd (upd B ys) xs
  | [], ys, B, _ => rfl
  | (i, x) :: xs, ys, B, h => by
    rw [upd_cons, upd_cons, upd_comm xs ys _ (fun b hb => h b (List.mem_cons_of_mem _ hb)), upd_setE ys B i x (h i (List.mem_cons_self ..))]

theorem upd_len (ws : List (Nat × Box)) : ∀ (B : Boxes), B.length ≤ (upd B ws).length := by
  induction ws with
  | nil => intro B; exact Nat.le_refl _
  | cons p ws ih =>
    intro B
    obtain ⟨i, x⟩ := p
    rw [upd_cons]
    refine Nat.le_trans ?_ (ih _)
    rw [setE_length]; omega

theorem upd_mem (ws : List (Nat × Box)) : ∀ (B : Boxes), ∀ b, b ∈ ws.map (·.1) → b < (upd B ws).length := by
  induction ws with
  | nil => intro B b hb; simp at hb
  | cons p ws ih =>
    intro B b hb
    obtain ⟨i, x⟩ := p
    rw [upd_cons]
    simp only [List.map_cons, List.mem_cons] at hb
    rcases hb with rfl | hb
    · refine Nat.lt_of_lt_of_le ?_ (upd_len ws _)
      rw [setE_length]; omega
    · exact ih _ b hb

theorem setD_comm (env : Env) {x y : Option Nat} (v u : AV) (h : ∀ d, x = some d → y ≠ some d) : setD (setD env x v) y u = setD (setD env y u) x v := by
  cases x with
  | none => rfl
  | some d =>
    cases y with
    | none => rfl
    | some e =>
      have hne : d ≠ e := fun he => h d rfl (he ▸ rfl)
      simp only [setD]
      exact List.set_comm _ _ hne

theorem setD_get {env : Env} {x : Option Nat} {v : AV} {i : Nat} (h : ∀ d, x = some d → i ≠ d) : (setD env x v).getD i .top = env.getD i .top := by
  cases x with
  | none => rfl
  | some d =>
    have := h d rfl
    simp [setD, List.getD_eq_getElem?_getD, List.getElem?_set, Ne.symm this]

theorem disj_spec {a b : List Nat} (h : disj a b = true) : ∀ x, x ∈ a → x ∉ b := by
  intro x hx hb
  simp only [disj, List.all_eq_true] at h
  have := h x hx
  simp [hb] at this

section
variable {byref : FuncId → Bool} {call : Caller}

theorem swap {oj oi : AOper} {env env1 env2 : Env} {B B1 B2 : Boxes} {alj ali : Nat} {rsj wsj rsi wsi : List Nat} (h1 : (evOper byref call oj env B alj).run = some (env1, B1, rsj, wsj)) (h2 : (evOper byref call oi env1 B1 ali).run = some (env2, B2, rsi, wsi))
    (hap : Rec.apart ⟨oj.dst, oj.looks, rsj, wsj⟩ ⟨oi.dst, oi.looks, rsi, wsi⟩ = true) :
    ∃ env1' B1', (evOper byref call oi env B ali).run = some (env1', B1', rsi, wsi) ∧ (evOper byref call oj env1' B1' alj).run = some (env2, B2, rsj, wsj) := by
  simp only [Rec.apart, Bool.and_eq_true] at hap
  obtain ⟨⟨⟨⟨a1, a2⟩, a3⟩, a4⟩, a5⟩ := hap
  have d1 : ∀ d, oj.dst = some d → d ∉ oi.looks ∧ oi.dst ≠ some d := by
    intro d hd
    rw [hd] at a1
    simpa using a1
  have d2 : ∀ d, oi.dst = some d → d ∉ oj.looks := by
    intro d hd
    rw [hd] at a2
    simpa using a2
  obtain ⟨v0, x0, e1, e2, e3, _⟩ := evOper_local (B' := B) (env2 := env) h1 (fun _ _ => rfl) (fun _ _ => rfl)
  have l1 : ∀ b, b ∈ rsi → look B b = look B1 b := by
    intro b hb
    rw [e2, look_upd]
    refine (updsL_other _ _ ?_).symm
    rw [← e3]
    exact fun hw => disj_spec a3 b hw hb
  obtain ⟨vi, xi, f1, f2, f3, f4⟩ := evOper_local (B' := B) (env2 := env) h2 l1 (fun i hi => by
    rw [e1]
    exact (setD_get fun d hd e => (d1 d hd).1 (e ▸ hi)).symm)
  have l2 : ∀ b, b ∈ rsj → look (upd B xi) b = look B b := by
    intro b hb
    rw [look_upd]
    refine updsL_other _ _ ?_
    rw [← f3]
    exact fun hw => disj_spec a5 b hw hb
  obtain ⟨vj, xj, g1, g2, g3, g4⟩ := evOper_local (B' := upd B xi) (env2 := setD env oi.dst vi) h1 l2 (fun i hi => setD_get fun d hd e => d2 d hd (e ▸ hi))
  refine ⟨_, _, f4, ?_⟩
  rw [g4, f1, f2, g1, g2, setD_comm env vj vi (fun d hd => (d1 d hd).2), upd_comm xj xi B (fun b hb hb' => disj_spec a4 b (g3 ▸ hb) (f3 ▸ hb'))]

def Seq (byref : FuncId → Bool) (call : Caller) (base : Nat) : List (Nat × AOper × Rec) → Env → Boxes → Env → Boxes → Prop
  | [], env, B, env', B' => env = env' ∧ B = B'
  | x :: rest, env, B, env', B' => ∃ e1 B1, (evOper byref call x.2.1 env B (base + x.1 * room)).run = some (e1, B1, x.2.2.reads, x.2.2.writes) ∧ x.2.2 = ⟨x.2.1.dst, x.2.1.looks, x.2.2.reads, x.2.2.writes⟩ ∧ Seq byref call base rest e1 B1 env' B'

theorem Seq.front {base : Nat} {z : Nat × AOper × Rec} {ys : List (Nat × AOper × Rec)} {env' : Env} {B' : Boxes} : ∀ (xs : List (Nat × AOper × Rec)) (env : Env) (B : Boxes), Seq byref call base (xs ++ z :: ys) env B env' B' → (∀ x, x ∈ xs → Rec.apart x.2.2 z.2.2 = true) →
    Seq byref call base (z :: (xs ++ ys)) env B env' B'
  | [], env, B, h, _ => h
  | x :: xs, env, B, h, hap => by
    obtain ⟨e1, B1, h1, h2, h3⟩ := h
    obtain ⟨e2, B2, h4, h5, h6⟩ := Seq.front xs e1 B1 h3 (fun y hy => hap y (List.mem_cons_of_mem _ hy))
    have ha := hap x (List.mem_cons_self ..)
    rw [h2, h5] at ha
    obtain ⟨e1', B1', g1, g2⟩ := swap h1 h4 ha
    exact ⟨e1', B1', g1, h5, e2, B2, g2, h2, h6⟩

theorem Seq.of_draw {base : Nat} : ∀ (os : List AOper) (i : Nat) (env : Env) (B : Boxes) (env' : Env) (B' : Boxes) (recs : List Rec), (evDrawGo byref call base i os env B).run = some (env', B', recs) →
    ∃ l : List (Nat × AOper × Rec), Seq byref call base l env B env' B' ∧ l.length = os.length ∧ recs.length = os.length ∧ ∀ k x, l[k]? = some x → x.1 = i + k ∧ os[k]? = some x.2.1 ∧ recs[k]? = some x.2.2
  | [], i, env, B, env', B', recs, h => by
    simp only [evDrawGo, M.run, Option.some.injEq, Prod.mk.injEq] at h
    obtain ⟨rfl, rfl, rfl⟩ := h
    exact ⟨[], ⟨rfl, rfl⟩, rfl, rfl, fun k x hx => by simp at hx⟩
  | o :: os, i, env, B, env', B', recs, h => by
    simp only [evDrawGo] at h
    obtain ⟨⟨e1, B1, rs, ws⟩, h1, h2⟩ := run_bind_some h
    obtain ⟨⟨e2, B2, recs'⟩, h3, h4⟩ := run_bind_some h2
    simp only [M.run, Option.some.injEq, Prod.mk.injEq] at h4
    obtain ⟨rfl, rfl, rfl⟩ := h4
    obtain ⟨l, g1, g2, g3, g4⟩ := Seq.of_draw os (i + 1) e1 B1 _ _ recs' h3
    refine ⟨(i, o, ⟨o.dst, o.looks, rs, ws⟩) :: l, ⟨e1, B1, h1, rfl, g1⟩, by simp [g2], by simp [g3], fun k x hx => ?_⟩
    cases k with
    | zero =>
      simp only [List.getElem?_cons_zero, Option.some.injEq] at hx
      subst hx
      exact ⟨rfl, rfl, rfl⟩
    | succ k =>
      obtain ⟨q1, q2, q3⟩ := g4 k x (by simpa using hx)
      exact ⟨by omega, by simpa using q2, by simpa using q3⟩

end

theorem apartGo_spec {r : Rec} {j : Nat} : ∀ (bits : List Nat) (xs : List Rec), apartGo r j bits xs = true → ∀ (m : Nat) (x : Rec), xs[m]? = some x → ∃ b : Nat, bits[m]? = some b ∧ (b.testBit j = true ∨ Rec.apart r x = true)
  | bits, [], h, m, x, hx => by simp at hx
  | [], y :: xs, h, m, x, hx => by simp [apartGo] at h
  | b :: bs, y :: xs, h, m, x, hx => by
    simp only [apartGo, Bool.and_eq_true, Bool.or_eq_true] at h
    cases m with
    | zero =>
      simp only [List.getElem?_cons_zero, Option.some.injEq] at hx
      subst hx
      exact ⟨b, rfl, h.1⟩
    | succ m =>
      obtain ⟨b', h1, h2⟩ := apartGo_spec bs xs h.2 m x (by simpa using hx)
      exact ⟨b', by simpa using h1, h2⟩

theorem apartAll_spec : ∀ (recs : List Rec) (j : Nat) (bits : List Nat), apartAll j bits recs = true → ∀ (p q : Nat) (x y : Rec), p < q → recs[p]? = some x → recs[q]? = some y → ∃ b : Nat, bits[q]? = some b ∧ (b.testBit (j + p) = true ∨ Rec.apart x y = true)
  | [], j, bits, h, p, q, x, y, hpq, hx, hy => by simp at hx
  | r :: rs, j, bits, h, p, q, x, y, hpq, hx, hy => by
    simp only [apartAll, Bool.and_eq_true] at h
    obtain ⟨q, rfl⟩ : ∃ q', q = q' + 1 := ⟨q - 1, by omega⟩
    cases p with
    | zero =>
      simp only [List.getElem?_cons_zero, Option.some.injEq] at hx
      subst hx
      obtain ⟨b, h1, h2⟩ := apartGo_spec _ rs h.1 q y (by simpa using hy)
      exact ⟨b, by simpa [Nat.add_comm] using h1, h2⟩
    | succ p =>
      obtain ⟨b, h1, h2⟩ := apartAll_spec rs (j + 1) _ h.2 p q x y (by omega) (by simpa using hx) (by simpa using hy)
      exact ⟨b, by simpa [Nat.add_comm] using h1, by rw [show j + (p + 1) = j + 1 + p from by omega]; exact h2⟩

theorem bits_spec (acc : List Nat) : ∀ (es : List Nat) (s j : Nat), (es.foldl (fun s e => s ||| 2 ^ e ||| acc.getD e 0) s).testBit j = true → s.testBit j = true ∨ ∃ e, e ∈ es ∧ (j = e ∨ (acc.getD e 0).testBit j = true)
  | [], s, j, h => .inl h
  | e :: es, s, j, h => by
    simp only [List.foldl_cons] at h
    rcases bits_spec acc es _ j h with h1 | ⟨e', h1, h2⟩
    · simp only [Nat.testBit_or, Bool.or_eq_true] at h1
      rcases h1 with (h1 | h1) | h1
      · exact .inl h1
      · rw [Nat.testBit_two_pow] at h1
        exact .inr ⟨e, List.mem_cons_self .., .inl (by simpa using (of_decide_eq_true h1).symm)⟩
      · exact .inr ⟨e, List.mem_cons_self .., .inr h1⟩
    · exact .inr ⟨e', List.mem_cons_of_mem _ h1, h2⟩

def AheadOK (acc : List Nat) (done : List (List Nat)) : Prop :=
  ∀ (i b j : Nat), acc[i]? = some b → b.testBit j = true → ∃ es, done[i]? = some es ∧ ∃ e, e ∈ es ∧ (j = e ∨ (e < i ∧ ∃ b' : Nat, acc[e]? = some b' ∧ b'.testBit j = true))

theorem ahead_go : ∀ (rest : List (List Nat)) (acc : List Nat) (done : List (List Nat)), acc.length = done.length → AheadOK acc done →
    AheadOK (rest.foldl (fun acc es => acc ++ [es.foldl (fun s e => s ||| 2 ^ e ||| acc.getD e 0) 0]) acc) (done ++ rest)
  | [], acc, done, hl, h => by simpa using h
  | es :: rest, acc, done, hl, h => by
    simp only [List.foldl_cons]
    have := ahead_go rest (acc ++ [es.foldl (fun s e => s ||| 2 ^ e ||| acc.getD e 0) 0]) (done ++ [es]) (by simp [hl]) ?_
    · simpa using this
    · intro i b j hb hj
      rcases Nat.lt_or_ge i acc.length with hi | hi
      · rw [List.getElem?_append_left hi] at hb
        obtain ⟨es', h1, e, h2, h3⟩ := h i b j hb hj
        refine ⟨es', by rw [List.getElem?_append_left (by omega)]; exact h1, e, h2, h3.imp id ?_⟩
        rintro ⟨h4, b', h5, h6⟩
        exact ⟨h4, b', by rw [List.getElem?_append_left (by omega)]; exact h5, h6⟩
      · rw [List.getElem?_append_right hi] at hb
        have hi' : i = acc.length := by
          apply Classical.byContradiction
          intro hn
          rw [List.getElem?_eq_none (by simp; omega)] at hb
          cases hb
        subst hi'
        simp only [Nat.sub_self, List.getElem?_cons_zero, Option.some.injEq] at hb
        subst hb
        refine ⟨es, by rw [List.getElem?_append_right (by omega)]; simp [hl], ?_⟩
        rcases bits_spec acc es 0 j hj with h1 | ⟨e, h1, h2⟩
        · simp at h1
        · refine ⟨e, h1, h2.imp id fun h3 => ?_⟩
          rcases Nat.lt_or_ge e acc.length with he | he
          · refine ⟨he, acc[e], ?_, ?_⟩
            · rw [List.getElem?_append_left he, List.getElem?_eq_getElem he]
            · simpa [List.getD_eq_getElem?_getD, List.getElem?_eq_getElem he] using h3
          · simp [List.getD_eq_getElem?_getD, List.getElem?_eq_none he] at h3

theorem ahead_spec (after : List (List Nat)) : AheadOK (ahead after) after := by
  have := ahead_go after [] [] rfl (fun i b j h => by simp at h)
  simpa [ahead] using this

end Go.Ev
namespace Go.Ev
set_option linter.unusedVariables false
set_option linter.unusedSimpArgs false
set_option linter.unusedSectionVars false
variable [Ctx]

section
variable {P : Program} [TagOK P] {X : Blocks} {byref : FuncId → Bool} {call : Caller}

structure Gone (X : Blocks) (β : Map) (N : Nat → Prop) (w : World) (B : Boxes) (d : List Deferred) (β' : Map) (N' : Nat → Prop) (env' : Env) (B' : Boxes) (a' : Act) (w' : World) : Prop where
  sim : SimA X β' N' w' env' a' B'
  defers : a'.defers = d
  fr : Fr (Own β (look B)) w (Own β' (look B')) w'
  more : ∀ b, N b → N' b ∧ β' b = β b

theorem Gone.trans {β β' β'' : Map} {N N' N'' : Nat → Prop} {w w' w'' : World} {B B' B'' : Boxes} {d : List Deferred} {env' env'' : Env} {a' a'' : Act}
    (h : Gone X β N w B d β' N' env' B' a' w') (k : Gone X β' N' w' B' a'.defers β'' N'' env'' B'' a'' w'') : Gone X β N w B d β'' N'' env'' B'' a'' w'' :=
  ⟨k.sim, k.defers.trans h.defers, h.fr.trans k.fr, fun b hb => ⟨(k.more b (h.more b hb).1).1, (k.more b (h.more b hb).1).2.trans (h.more b hb).2⟩⟩

theorem Gone.refl {β : Map} {N : Nat → Prop} {w : World} {B : Boxes} {env : Env} {a : Act} (h : SimA X β N w env a B) : Gone X β N w B a.defers β N env B a w :=
  ⟨h, rfl, Fr.refl _ _, fun b hb => ⟨hb, rfl⟩⟩

theorem After.gone {β : Map} {N : Nat → Prop} {w : World} {B : Boxes} {al : Nat} {d : List Deferred} {env' : Env} {B' : Boxes} {a' : Act} {w' : World} (h : After X β N w B al d env' B' a' w') :
    ∃ β' N', Gone X β N w B d β' N' env' B' a' w' ∧ ∀ b, N' b → N b ∨ (al ≤ b ∧ b < al + room ∧ b < B'.length) := by
  obtain ⟨β', N', h1, h2, h3, h4, h5⟩ := h
  refine ⟨β', N', ⟨h1, h2, h3, h4⟩, fun b hb => (h5 b hb).imp id fun ⟨q1, q2, q3⟩ => ⟨q1, q2, ?_⟩⟩
  apply Classical.byContradiction
  intro hn
  exact q3 (by simp [look, List.getD_eq_getElem?_getD, List.getElem?_eq_none (Nat.not_lt.1 hn)])

theorem evOper_len {o : AOper} {env : Env} {B : Boxes} {al : Nat} {r : Env × Boxes × List Nat × List Nat} (h : (evOper byref call o env B al).run = some r) : B.length ≤ r.2.1.length := by
  obtain ⟨e, B1, rs, ws⟩ := r
  obtain ⟨v, xs, h1, h2, h3, h4⟩ := evOper_local (B' := B) (env2 := env) h (fun _ _ => rfl) (fun _ _ => rfl)
  simp only [h2]
  exact upd_len _ _

theorem compOpers_get {ops : Array Oper} : ∀ (os : List Oper) (as : List AOper), compOpers P ops os = some as → as.length = os.length ∧ ∀ (k : Nat) (o : Oper), os[k]? = some o → ∃ ao, as[k]? = some ao ∧ compOper P ops o = some ao
  | [], as, h => by
    simp only [compOpers, Option.some.injEq] at h
    subst h
    exact ⟨rfl, fun k o ho => by simp at ho⟩
  | o :: os, as, h => by
    simp only [compOpers] at h
    split at h
    · rename_i a as' h1 h2
      simp only [Option.some.injEq] at h
      subst h
      obtain ⟨g1, g2⟩ := compOpers_get os as' h2
      refine ⟨by simp [g1], fun k o' ho => ?_⟩
      cases k with
      | zero =>
        simp only [List.getElem?_cons_zero, Option.some.injEq] at ho
        subst ho
        exact ⟨a, rfl, h1⟩
      | succ k => simpa using g2 k o' (by simpa using ho)
    · cases h

theorem list_sound (hok : CallOK P call) {ops : Array Oper} {Q : Exit → Act → World → Prop} : ∀ (os : List Oper) (as : List AOper) {β : Map} {N : Nat → Prop} {w : World} {env env' : Env} {a : Act} {B B' : Boxes}, compOpers P ops os = some as → SimA X β N w env a B → (∀ b, N b → b < B.length) →
    (evOps byref call as env B).run = some (env', B') →
    (∀ β' N' a' w', Gone X β N w B a.defers β' N' env' B' a' w' → (∀ b, N' b → b < B'.length) → Q .normal a' w') → wpList P ops Q os a w
  | [], as, β, N, w, env, env', a, B, B', hc, hS, hN, hr, hQ => by
    simp only [compOpers, Option.some.injEq] at hc
    subst hc
    simp only [evOps, M.run, Option.some.injEq, Prod.mk.injEq] at hr
    obtain ⟨rfl, rfl⟩ := hr
    exact hQ β N a w (Gone.refl hS) hN
  | o :: os, as, β, N, w, env, env', a, B, B', hc, hS, hN, hr, hQ => by
    simp only [compOpers] at hc
    split at hc
    · rename_i ao as' h1 h2
      simp only [Option.some.injEq] at hc
      subst hc
      simp only [evOps] at hr
      obtain ⟨⟨e1, B1, rs, ws⟩, h3, h4⟩ := run_bind_some hr
      simp only at h4
      refine wpList_step fun K hK => ?_
      have hl := evOper_len h3
      refine evOper_sound (al := B.length) h1 hok hS (fun j _ hj => absurd (hN _ hj) (by omega)) h3 fun a' w' hA => hK _ _ ?_
      obtain ⟨β1, N1, hg, hn⟩ := hA.gone
      have hN1 : ∀ b, N1 b → b < B1.length := fun b hb => (hn b hb).elim (fun h => Nat.lt_of_lt_of_le (hN b h) hl) fun h => h.2.2
      refine list_sound hok os as' h2 hg.sim hN1 h4 fun β' N' a'' w'' hg' hN' => hQ β' N' a'' w'' (hg.trans hg') hN'
    · cases hc

theorem look_pad (B : Boxes) (n : Nat) : look (B ++ List.replicate n .dead) = look B := by
  funext b
  simp only [look, List.getD_eq_getElem?_getD, List.getElem?_append]
  split
  · rfl
  · rename_i h
    rw [List.getElem?_eq_none (Nat.not_lt.1 h), List.getElem?_replicate]
    split <;> rfl

theorem SimA.pad {β : Map} {N : Nat → Prop} {w : World} {env : Env} {a : Act} {B : Boxes} (n : Nat) (h : SimA X β N w env a B) : SimA X β N w env a (B ++ List.replicate n .dead) := by
  have e := look_pad B n
  exact ⟨by rw [e]; exact h.heap, h.len, by rw [e]; exact h.slot⟩

theorem SimB.same {β : Map} {N : Nat → Prop} {w w' : World} {L : Looks} (h : SimB X β N w L) (e : w'.heap = w.heap) : SimB X β N w' L := by
  have mv : Mv (All X β L) β N w (All X β L) β N w' := ⟨by rw [e]; exact Nat.le_refl _, fun c _ hc => ⟨hc, by rw [e]⟩, fun c arr t fz ha => ⟨arr, fz, by rw [e]; exact ha, rfl⟩, fun b hb => hb, fun b hb => rfl⟩
  refine ⟨h.apart, h.inj, fun b => ?_, h.dom, fun c hc => by rw [e]; exact h.old c hc, Ctx.stays w w' (fun c _ => by rw [e]) h.tabs.1, fun c hc => ⟨by rw [e]; exact (h.tabs.2 c hc).1, (h.tabs.2 c hc).2⟩⟩
  by_cases hd : L b = .dead
  · rw [hd]; trivial
  · exact (h.box b).move mv (h.dom b hd) fun c _ _ => by rw [e]

theorem SimA.same {β : Map} {N : Nat → Prop} {w w' : World} {env : Env} {a : Act} {B : Boxes} (h : SimA X β N w env a B) (e : w'.heap = w.heap) : SimA X β N w' env a B := by
  have mv : Mv (All X β (look B)) β N w (All X β (look B)) β N w' := ⟨by rw [e]; exact Nat.le_refl _, fun c _ hc => ⟨hc, by rw [e]⟩, fun c arr t fz ha => ⟨arr, fz, by rw [e]; exact ha, rfl⟩, fun b hb => hb, fun b hb => rfl⟩
  exact ⟨h.heap.same e, h.len, fun i => (h.slot i).move mv⟩

def Closed (ops : Array Oper) (listed : Array Bool) : Prop :=
  ∀ (i : Nat) (o : Oper), ops[i]? = some o → listed.getD i false = true → ∀ e, e ∈ edgesOf o → listed.getD e false = true

theorem ahead_listed {ops : Array Oper} {listed : Array Bool} (hc : Closed ops listed) : ∀ (i : Nat) (o : Oper) (b j : Nat), ops[i]? = some o → (∀ e, e ∈ edgesOf o → listed.getD e false = true) → (ahead (ops.toList.map edgesOf))[i]? = some b → b.testBit j = true → listed.getD j false = true := by
  intro i
  induction i using Nat.strongRecOn with
  | _ i ih =>
    intro o b j ho he hb hj
    obtain ⟨es, h1, e, h2, h3⟩ := ahead_spec _ i b j hb hj
    have : es = edgesOf o := by
      rw [List.getElem?_map] at h1
      have : ops.toList[i]? = some o := by simpa using ho
      rw [this] at h1
      simpa using h1.symm
    subst this
    rcases h3 with rfl | ⟨h4, b', h5, h6⟩
    · exact he _ h2
    · have hi : e < ops.size := Nat.lt_trans h4 (Array.getElem?_eq_some_iff.1 ho).1
      exact ih e h4 ops[e] b' j (Array.getElem?_eq_getElem hi) (hc e _ (Array.getElem?_eq_getElem hi) (he e h2)) h5 h6

theorem edges_of {o : Oper} {listed : Array Bool} (h : (o.after.all fun e => !Region.binds .any e || listed.getD e.on false) = true) : ∀ e, e ∈ edgesOf o → listed.getD e false = true := by
  intro e he
  simp only [edgesOf, List.mem_filterMap] at he
  obtain ⟨x, h1, h2⟩ := he
  rw [Array.all_eq_true'] at h
  have := h x (by simpa using h1)
  split at h2
  · rename_i hb
    simp only [Option.some.injEq] at h2
    subst h2
    simpa [hb] using this
  · cases h2

theorem edgesOK_spec : ∀ (l : List (List Nat)) (i : Nat), edgesOK i l = true → ∀ (k : Nat) (es : List Nat), l[k]? = some es → ∀ e, e ∈ es → e < i + k
  | [], i, h, k, es, hk => by simp at hk
  | x :: l, i, h, k, es, hk => by
    simp only [edgesOK, Bool.and_eq_true, List.all_eq_true] at h
    intro e he
    cases k with
    | zero =>
      simp only [List.getElem?_cons_zero, Option.some.injEq] at hk
      subst hk
      have := h.1 e he
      rw [Nat.blt, Nat.ble_eq] at this
      omega
    | succ k =>
      have := edgesOK_spec l (i + 1) h.2 k es (by simpa using hk) e he
      omega

structure Left (P : Program) (ops : Array Oper) (base : Nat) (N : Nat → Prop) (listed : Array Bool) (l : List (Nat × AOper × Rec)) : Prop where
  size : listed.size = ops.size
  mem : ∀ i, i < ops.size → (listed.getD i true = false ↔ ∃ x, x ∈ l ∧ x.1 = i)
  item : ∀ x, x ∈ l → ∃ o, ops[x.1]? = some o ∧ compOper P ops o = some x.2.1
  pair : l.Pairwise fun x y => x.1 < y.1 ∧ ((∃ b : Nat, (ahead (ops.toList.map edgesOf))[y.1]? = some b ∧ b.testBit x.1 = true) ∨ Rec.apart x.2.2 y.2.2 = true)
  closed : Closed ops listed
  fresh : ∀ x, x ∈ l → ∀ j, j < room → ¬ N (base + x.1 * room + j)
  dom : ∀ b, N b → b < base + ops.size * room

theorem wpAny_of (hok : CallOK P call) {ops : Array Oper} {base : Nat} (hed : edgesOK 0 (ops.toList.map edgesOf) = true) {Q : Exit → Act → World → Prop} : ∀ (fuel : Nat) (listed : Array Bool) (l : List (Nat × AOper × Rec)) {β : Map} {N : Nat → Prop} {w : World} {env env' : Env} {a : Act} {B B' : Boxes},
    Left P ops base N listed l → l.length ≤ fuel → SimA X β N w env a B → Seq byref call base l env B env' B' →
    (∀ β' N' a' w', Gone X β N w B a.defers β' N' env' B' a' w' → (∀ b, N' b → b < base + ops.size * room) → Q .normal a' w') → wpAny P .any ops Q fuel listed a w := by
  intro fuel
  have none_left : ∀ (listed : Array Bool) (l : List (Nat × AOper × Rec)) (N : Nat → Prop), Left P ops base N listed l → Region.ready .any ops listed = [] → l = [] := by
    intro listed l N hl hr
    cases l with
    | nil => rfl
    | cons x l =>
      exfalso
      obtain ⟨o, h1, h2⟩ := hl.item x (List.mem_cons_self ..)
      have hx : x.1 < ops.size := (Array.getElem?_eq_some_iff.1 h1).1
      have : x.1 ∈ Region.ready .any ops listed := by
        unfold Region.ready
        rw [List.mem_filter]
        refine ⟨List.mem_range.2 hx, ?_⟩
        rw [(hl.mem x.1 hx).2 ⟨x, List.mem_cons_self .., rfl⟩, h1]
        simp only [Bool.not_false, Bool.true_and, Option.map_some, Option.getD_some]
        rw [Array.all_eq_true']
        intro e he
        by_cases hb : Region.binds .any e = true
        · have hm : e.on ∈ edgesOf o := by
            simp only [edgesOf, List.mem_filterMap]
            exact ⟨e, by simpa using he, by simp [hb]⟩
          have hlt := edgesOK_spec _ 0 hed x.1 (edgesOf o) (by rw [List.getElem?_map, show ops.toList[x.1]? = some o from by simpa using h1]; rfl) e.on hm
          have hlt' : e.on < x.1 := by omega
          cases hg : listed.getD e.on true with
          | true =>
            have hs : e.on < listed.size := by rw [hl.size]; omega
            have : listed.getD e.on false = true := by
              simp only [Array.getD_eq_getD_getElem?, Array.getElem?_eq_getElem hs, Option.getD_some] at hg ⊢
              exact hg
            simp [this]
          | false =>
            exfalso
            obtain ⟨y, hy, hye⟩ := (hl.mem e.on (by omega)).1 hg
            rcases List.mem_cons.1 hy with rfl | hy
            · omega
            · have := (List.pairwise_cons.1 hl.pair).1 y hy
              omega
        · simp [hb]
      rw [hr] at this
      cases this
  induction fuel with
  | zero =>
    intro listed l β N w env env' a B B' hl hlen hS hseq hQ
    have : l = [] := by cases l with
      | nil => rfl
      | cons x l => simp at hlen
    subst this
    obtain ⟨rfl, rfl⟩ := hseq
    refine ⟨?_, hQ β N a w (Gone.refl hS) hl.dom⟩
    unfold Region.ready
    rw [List.filter_eq_nil_iff]
    intro i hi hh
    simp only [Bool.and_eq_true, Bool.not_eq_true'] at hh
    obtain ⟨x, hx, _⟩ := (hl.mem i (List.mem_range.1 hi)).1 hh.1
    cases hx
  | succ fuel ih =>
    intro listed l β N w env env' a B B' hl hlen hS hseq hQ
    refine ⟨fun hr => ?_, fun i hi => ?_⟩
    · have := none_left listed l N hl hr
      subst this
      obtain ⟨rfl, rfl⟩ := hseq
      exact hQ β N a w (Gone.refl hS) hl.dom
    · unfold Region.ready at hi
      rw [List.mem_filter] at hi
      obtain ⟨hi1, hi2⟩ := hi
      have hlt := List.mem_range.1 hi1
      simp only [Bool.and_eq_true, Bool.not_eq_true'] at hi2
      obtain ⟨hi2, hi3⟩ := hi2
      obtain ⟨z, hz, rfl⟩ := (hl.mem i hlt).1 hi2
      obtain ⟨o, ho1, ho2⟩ := hl.item z hz
      rw [ho1] at hi3
      simp only [Option.map_some, Option.getD_some] at hi3
      have hedges := edges_of hi3
      obtain ⟨xs, ys, rfl⟩ := List.append_of_mem hz
      have hpw := List.pairwise_append.1 hl.pair
      have hfront := Seq.front xs env B hseq fun x hx => by
        have := hpw.2.2 x hx z (List.mem_cons_self ..)
        rcases this.2 with ⟨b, hb, hbit⟩ | h
        · exfalso
          have h1 := ahead_listed hl.closed z.1 o b x.1 ho1 hedges hb hbit
          have h2 := (hl.mem x.1 (by omega)).2 ⟨x, by simp [hx], rfl⟩
          have hs : x.1 < listed.size := by rw [hl.size]; omega
          simp only [Array.getD_eq_getD_getElem?, Array.getElem?_eq_getElem hs, Option.getD_some] at h1 h2
          rw [h1] at h2
          cases h2
        · exact h
      obtain ⟨e1, B1, hr1, hr2, hr3⟩ := hfront
      unfold wpOp
      rw [ho1]
      simp only
      have main := evOper_sound (K := wpAny P .any ops Q fuel (listed.setIfInBounds z.1 true)) (Q := Q) (al := base + z.1 * room) ho2 hok hS (hl.fresh z hz) hr1 fun a' w' hA => by
        obtain ⟨β1, N1, hg, hn⟩ := hA.gone
        have hne : ∀ x, x ∈ xs ++ ys → x.1 ≠ z.1 := by
          intro x hx
          rcases List.mem_append.1 hx with hx | hx
          · have := (hpw.2.2 x hx z (List.mem_cons_self ..)).1; omega
          · have := ((List.pairwise_cons.1 hpw.2.1).1 x hx).1; omega
        have hget : ∀ (i : Nat) (d : Bool), i ≠ z.1 → (listed.setIfInBounds z.1 true).getD i d = listed.getD i d := by
          intro i d hne
          simp [Array.getD_eq_getD_getElem?, Array.getElem?_setIfInBounds, Ne.symm hne]
        have hgetz : ∀ d, (listed.setIfInBounds z.1 true).getD z.1 d = true := by
          intro d
          simp [Array.getD_eq_getD_getElem?, Array.getElem?_setIfInBounds, hl.size, hlt]
        have mono : ∀ i, listed.getD i false = true → (listed.setIfInBounds z.1 true).getD i false = true := by
          intro i h
          by_cases e : i = z.1
          · subst e; exact hgetz _
          · rw [hget i false e]; exact h
        refine ih _ (xs ++ ys) ⟨by simp [hl.size], ?_, fun x hx => hl.item x ?_, ?_, ?_, ?_, ?_⟩ ?_ hg.sim hr3 fun β' N' a'' w'' hg' hN' => hQ β' N' a'' w'' (hg.trans hg') hN'
        · intro i hi
          by_cases e : i = z.1
          · subst e
            rw [hgetz]
            constructor
            · intro h; cases h
            · rintro ⟨x, hx, hxe⟩
              exact absurd hxe (hne x hx)
          · rw [hget i true e, hl.mem i hi]
            constructor
            · rintro ⟨x, hx, rfl⟩
              refine ⟨x, ?_, rfl⟩
              simp only [List.mem_append, List.mem_cons] at hx ⊢
              rcases hx with hx | rfl | hx
              · exact .inl hx
              · exact absurd rfl e
              · exact .inr hx
            · rintro ⟨x, hx, rfl⟩
              refine ⟨x, ?_, rfl⟩
              simp only [List.mem_append, List.mem_cons] at hx ⊢
              exact hx.imp id .inr
        · simp only [List.mem_append, List.mem_cons] at hx ⊢
          exact hx.imp id .inr
        · refine List.pairwise_append.2 ⟨hpw.1, (List.pairwise_cons.1 hpw.2.1).2, fun x hx y hy => hpw.2.2 x hx y (List.mem_cons_of_mem _ hy)⟩
        · intro i o' ho' hi e he
          by_cases ez : i = z.1
          · subst ez
            rw [ho1] at ho'
            simp only [Option.some.injEq] at ho'
            subst ho'
            exact mono e (hedges e he)
          · rw [hget i false ez] at hi
            exact mono e (hl.closed i o' ho' hi e he)
        · intro x hx j hj hN1
          have hx' : x ∈ xs ++ z :: ys := by
            simp only [List.mem_append, List.mem_cons] at hx ⊢
            exact hx.imp id .inr
          rcases hn _ hN1 with h | ⟨h1, h2, _⟩
          · exact hl.fresh x hx' j hj h
          · have := hne x hx
            simp only [room] at h1 h2 hj
            omega
        · intro b hb
          rcases hn _ hb with h | ⟨h1, h2, _⟩
          · exact hl.dom b h
          · simp only [room] at h1 h2 ⊢
            omega
        · simp only [List.length_append, List.length_cons] at hlen ⊢
          omega
      split
      · rename_i hw
        rw [if_pos hw] at main
        exact .inl main
      · rename_i hw
        rw [if_neg hw] at main
        exact main

end
end Go.Ev
namespace Go.Ev
set_option linter.unusedVariables false
set_option linter.unusedSimpArgs false
set_option linter.unusedSectionVars false
variable [Ctx]
section
variable {X : Blocks} {β : Map} {N : Nat → Prop} {w : World}

theorem normC_sound (t : Ty) {a : AV} {v : Value} (h : VR X β N w a v) : VR X β N w (normC t a) v := by
  unfold normC
  split
  · have : v = .slice none 0 0 := VR.d_iff.1 h
    subst this
    split
    · exact VR.d_iff.2 (RD.nil rfl)
    · exact h
  · exact h

theorem normCs_sound : ∀ (ts : List Ty) (as : List AV) (vs : List Value), VRs X β N w as vs → VRs X β N w (normCs ts as) vs
  | t :: ts, a :: as, [], h => by unfold VRs at h; exact h.elim
  | t :: ts, a :: as, v :: vs, h => by
    unfold VRs at h
    unfold normCs VRs
    exact ⟨normC_sound t h.1, normCs_sound ts as vs h.2⟩
  | [], as, vs, h => by cases as <;> exact h
  | t :: ts, [], vs, h => by exact h

theorem normCs_len : ∀ (ts : List Ty) (as : List AV), (normCs ts as).length = as.length
  | t :: ts, a :: as => by simp [normCs, normCs_len ts as]
  | [], as => by cases as <;> rfl
  | t :: ts, [] => rfl

theorem normCs_get : ∀ (ts : List Ty) (as : List AV) (j : Nat) (b : AV), (normCs ts as)[j]? = some b → ∃ a t, as[j]? = some a ∧ (b = normC t a ∨ b = a)
  | t :: ts, a :: as, 0, b, h => by
    simp only [normCs, List.getElem?_cons_zero, Option.some.injEq] at h
    exact ⟨a, t, rfl, .inl h.symm⟩
  | t :: ts, a :: as, j + 1, b, h => by
    simp only [normCs, List.getElem?_cons_succ] at h
    simpa using normCs_get ts as j b h
  | [], as, j, b, h => ⟨b, .unit, by cases as <;> exact h, .inr rfl⟩
  | t :: ts, [], j, b, h => by simp [normCs] at h

theorem forgC_sound {a : AV} {v : Value} (h : VR X β N w a v) : VR X β N w (forgC a) v := by
  unfold forgC
  split
  · obtain ⟨g1, g2, g3⟩ := VR.sr_iff.1 h
    refine VR.sr_iff.2 ⟨g1, g2, ?_⟩
    rcases g3 with ⟨b1, b2, b3, b4, _⟩ | ⟨c, k, b1, b2, b3, _, b5⟩
    · exact .inl ⟨b1, b2, b3, b4, rfl⟩
    · exact .inr ⟨c, k, b1, b2, b3, fun k' e => (by cases e), b5⟩
  · exact h

theorem headC_sound (m : Option Ty) {a : AV} {v : Value} (h : VR X β N w a v) : VR X β N w (headC m a) v := by
  unfold headC
  split
  · obtain ⟨vs, rfl, h2⟩ := VR.agg_iff.1 h
    exact VR.agg_iff.2 ⟨vs, rfl, normCs_sound _ _ _ h2⟩
  · exact normC_sound _ h
  · exact forgC_sound h

theorem headE_len : ∀ (l : List (Nat × Option Ty)) (env : Env), (headE l env).length = env.length
  | [], env => rfl
  | p :: l, env => by
    unfold headE
    rw [List.foldl_cons]
    exact (headE_len l _).trans (List.length_set ..)

theorem headE_sound {tmps : Array Value} : ∀ (l : List (Nat × Option Ty)) (env : Env), (∀ i, VR X β N w (env.getD i .top) (tmps.getD i undef)) → ∀ i, VR X β N w ((headE l env).getD i .top) (tmps.getD i undef)
  | [], env, h => h
  | p :: l, env, h => by
    unfold headE
    rw [List.foldl_cons]
    refine headE_sound l _ fun i => ?_
    rw [List.getD_eq_getElem?_getD, List.getElem?_set]
    split
    · rename_i e
      subst e
      split
      · exact headC_sound _ (h p.1)
      · exact VR.top_iff.2 trivial
    · rw [← List.getD_eq_getElem?_getD]; exact h i

theorem headB_len : ∀ (l : List (Nat × Ty)) (B : Boxes), (headB l B).length = B.length
  | [], B => rfl
  | p :: l, B => by
    unfold headB
    rw [List.foldl_cons]
    exact (headB_len l _).trans (List.length_set ..)

theorem normX_set (t : Ty) (b : Nat) (B : Boxes) (q : Nat) : look (B.set b (normX t (look B b))) q = if q = b then normX t (look B b) else look B q := by
  unfold look
  rw [List.getD_eq_getElem?_getD, List.getElem?_set]
  by_cases h : b = q
  · subst h
    by_cases hl : b < B.length
    · simp [hl]
    · simp [hl, List.getD_eq_getElem?_getD, normX]
  · have : ¬ q = b := fun e => h e.symm
    simp [h, this, List.getD_eq_getElem?_getD]

theorem SimB.norm1 (t : Ty) (b : Nat) {B : Boxes} (hS : SimB X β N w (look B)) : SimB X β N w (look (B.set b (normX t (look B b)))) ∧ Own β (look (B.set b (normX t (look B b)))) = Own β (look B) := by
  have hl : ∀ q, look (B.set b (normX t (look B b))) q = look B q ∨ ∃ l, look B q = .cells l ∧ look (B.set b (normX t (look B b))) q = .cells (normCs (cellTys t) l) := by
    intro q
    rw [normX_set]
    split
    · rename_i e
      subst e
      cases hx : look B q with
      | cells l => exact .inr ⟨l, rfl, rfl⟩
      | dead => exact .inl rfl
      | arr => exact .inl rfl
      | keys => exact .inl rfl
    · exact .inl rfl
  have hlive : ∀ q, (look (B.set b (normX t (look B b))) q).live = (look B q).live := by
    intro q
    rcases hl q with h | ⟨l, h1, h2⟩
    · rw [h]
    · rw [h1, h2]; rfl
  have hown : Own β (look (B.set b (normX t (look B b)))) = Own β (look B) := by
    funext c
    simp only [Own, hlive]
  have hall : All X β (look (B.set b (normX t (look B b)))) = All X β (look B) := by
    funext c
    simp only [All, hown]
  refine ⟨⟨fun c h => hS.apart c (by rw [← hown]; exact h), fun b1 b2 c h1 h2 => hS.inj b1 b2 c (by rw [← hlive]; exact h1) (by rw [← hlive]; exact h2), fun q => ?_, fun q h => ?_, hS.old, hS.tabs.1, fun c hc => by rw [hown]; exact hS.tabs.2 c hc⟩, hown⟩
  · rw [hall]
    rcases hl q with h | ⟨l, h1, h2⟩
    · rw [h]; exact hS.box q
    · rw [h2]
      have := hS.box q
      rw [h1] at this
      obtain ⟨c, arr, e, g1, g2, g3, g4⟩ := this
      refine ⟨c, arr, e, g1, g2, by rw [g3, normCs_len], fun j a v ha hv => ?_⟩
      obtain ⟨a0, t0, k1, k2⟩ := normCs_get _ _ j a ha
      rcases k2 with rfl | rfl
      · exact ⟨normC_sound t0 (g4 j a0 v k1 hv).1, (g4 j a0 v k1 hv).2⟩
      · exact g4 j a v k1 hv
  · refine hS.dom q fun hd => h ?_
    rcases hl q with h' | ⟨l, h1, h2⟩
    · rw [h', hd]
    · rw [h1] at hd; cases hd

theorem headB_sound : ∀ (l : List (Nat × Ty)) (B : Boxes), SimB X β N w (look B) → SimB X β N w (look (headB l B)) ∧ Own β (look (headB l B)) = Own β (look B)
  | [], B, h => ⟨h, rfl⟩
  | p :: l, B, h => by
    unfold headB
    rw [List.foldl_cons]
    obtain ⟨h1, h2⟩ := SimB.norm1 p.2 p.1 h
    obtain ⟨h3, h4⟩ := headB_sound l _ h1
    exact ⟨h3, h4.trans h2⟩

theorem VRs.set {Y : Blocks} {a : AV} : ∀ (i : Nat) (env : Env) (vs : List Value), VRs Y β N w env vs → (∀ v, vs[i]? = some v → VR Y β N w a v) → VRs Y β N w (env.set i a) vs
  | _, [], [], h, _ => h
  | _, [], _ :: _, h, _ => by unfold VRs at h; exact h.elim
  | _, _ :: _, [], h, _ => by unfold VRs at h; exact h.elim
  | 0, b :: env, v :: vs, h, ha => by
    unfold VRs at h
    rw [List.set_cons_zero]
    unfold VRs
    exact ⟨ha v rfl, h.2⟩
  | i + 1, b :: env, v :: vs, h, ha => by
    unfold VRs at h
    rw [List.set_cons_succ]
    unfold VRs
    exact ⟨h.1, VRs.set i env vs h.2 fun u hu => ha u (by simpa using hu)⟩

theorem frz_sound : ∀ (l : List Nat) (env : Env) (B : Boxes) (r : Env × Boxes) (vs : List Value), SimB X β N w (look B) → VRs (All X β (look B)) β N w env vs → (frz l env B).run = some r →
    SimB X β N w (look r.2) ∧ VRs (All X β (look r.2)) β N w r.1 vs ∧ Fr (Own β (look B)) w (Own β (look r.2)) w
  | [], env, B, r, vs, hS, hv, hr => by
    simp only [frz, M.run, Option.some.injEq] at hr
    subst hr
    exact ⟨hS, hv, Fr.refl _ _⟩
  | i :: l, env, B, r, vs, hS, hv, hr => by
    unfold frz at hr
    obtain ⟨⟨a, ws⟩, h1, h2⟩ := run_bind_some hr
    have hl := VRs.len _ _ hv
    by_cases hi : i < env.length
    · have hi' : i < vs.length := by omega
      have h0 : VR (All X β (look B)) β N w (env.getD i .top) vs[i] := by
        have := VRs.get _ _ hv i env[i] vs[i] (by simp [hi]) (by simp [hi'])
        simpa [List.getD_eq_getElem?_getD, hi] using this
      obtain ⟨a1, a2, a3, _⟩ := snap_sound _ _ _ _ _ hS (Cl.refl _) h1 h0
      rw [← look_upd] at a1 a2 a3
      have mv := mv_cl (X := X) (N := N) a2
      obtain ⟨b1, b2, b3⟩ := frz_sound l _ _ r vs a1 (VRs.set i env vs (VRs.move mv _ _ hv) fun v h => by
        rw [List.getElem?_eq_getElem hi', Option.some.injEq] at h
        subst h
        exact a3) h2
      exact ⟨b1, b2, a2.trans b3⟩
    · have e0 : env.getD i .top = .top := by rw [List.getD_eq_getElem?_getD, List.getElem?_eq_none (by omega)]; rfl
      rw [e0] at h1
      simp only [snap, M.run, Option.some.injEq, Prod.mk.injEq] at h1
      obtain ⟨rfl, rfl⟩ := h1
      simp only at h2
      rw [List.set_eq_of_length_le (by omega)] at h2
      exact frz_sound l env B r vs hS hv h2

end
end Go.Ev
namespace Go.Ev
set_option linter.unusedVariables false
set_option linter.unusedSimpArgs false
set_option linter.unusedSectionVars false
variable [Ctx]

section
variable {P : Program} [TagOK P] {X : Blocks} {byref : FuncId → Bool} {call : Caller}

theorem Seq.len {base : Nat} : ∀ (l : List (Nat × AOper × Rec)) (env : Env) (B : Boxes) (env' : Env) (B' : Boxes), Seq byref call base l env B env' B' → B.length ≤ B'.length
  | [], env, B, env', B', h => by obtain ⟨rfl, rfl⟩ := h; exact Nat.le_refl _
  | x :: l, env, B, env', B', h => by
    obtain ⟨e1, B1, h1, h2, h3⟩ := h
    exact Nat.le_trans (evOper_len h1) (Seq.len l e1 B1 env' B' h3)

theorem draw_sound (hm : P.follows .mixedOrders = true) (hok : CallOK P call) {id : Nat} {ops : Array Oper} {as : List AOper} (hc : compOpers P ops ops.toList = some as) (hed : edgesOK 0 (ops.toList.map edgesOf) = true) {Q : Exit → Act → World → Prop}
    {β : Map} {N : Nat → Prop} {w : World} {env env' : Env} {a : Act} {B B' : Boxes} (hS : SimA X β N w env a B) (hN : ∀ b, N b → b < B.length) (hr : (evDraw byref call (ops.toList.map edgesOf) as env B).run = some (env', B'))
    (hQ : ∀ β' N' a' w', Gone X β N w B a.defers β' N' env' B' a' w' → (∀ b, N' b → b < B'.length) → Q .normal a' w') : (Code.region id ops true).wp P Q a w := by
  unfold evDraw at hr
  obtain ⟨⟨e1, B1, recs⟩, h1, h2⟩ := run_bind_some hr
  simp only at h2
  obtain ⟨hap, h3⟩ := (M.run_ifb _ _ _).1 h2
  simp only [M.run, Option.some.injEq, Prod.mk.injEq] at h3
  obtain ⟨rfl, rfl⟩ := h3
  obtain ⟨l, g1, g2, g3, g4⟩ := Seq.of_draw as 0 _ _ _ _ _ h1
  obtain ⟨c1, c2⟩ := compOpers_get _ _ hc
  have hlen : l.length = ops.size := by rw [g2, c1]; simp
  have hpl : (B ++ List.replicate (as.length * room) Box.dead).length = B.length + ops.size * room := by simp [c1]
  refine wp_region_any hm ?_
  have hS2 : SimA X β N { w with drawn := w.drawn + 1 } env a (B ++ List.replicate (as.length * room) Box.dead) := (hS.pad _).same rfl
  refine wpAny_of (base := B.length) hok hed ops.size _ l ?_ (by omega) hS2 g1 ?_
  · refine ⟨by simp, ?_, ?_, ?_, ?_, ?_, ?_⟩
    · intro i hi
      constructor
      · intro _
        have hi' : i < l.length := by omega
        exact ⟨l[i], List.getElem_mem hi', by have := (g4 i l[i] (List.getElem?_eq_getElem hi')).1; omega⟩
      · intro _
        simp [Array.getD_eq_getD_getElem?, hi]
    · intro x hx
      obtain ⟨k, hk, rfl⟩ := List.mem_iff_getElem.1 hx
      obtain ⟨q1, q2, q3⟩ := g4 k _ (List.getElem?_eq_getElem hk)
      have hk' : k < ops.size := by omega
      obtain ⟨ao, r1, r2⟩ := c2 k ops[k] (by simp [hk'])
      have : (l[k]).1 = k := by omega
      rw [this]
      refine ⟨ops[k], Array.getElem?_eq_getElem hk', ?_⟩
      rw [q2] at r1
      simp only [Option.some.injEq] at r1
      rw [r1]; exact r2
    · rw [List.pairwise_iff_getElem]
      intro i j hi hj hij
      obtain ⟨p1, _, p3⟩ := g4 i _ (List.getElem?_eq_getElem hi)
      obtain ⟨q1, _, q3⟩ := g4 j _ (List.getElem?_eq_getElem hj)
      refine ⟨by omega, ?_⟩
      obtain ⟨b, r1, r2⟩ := apartAll_spec recs 0 _ hap i j _ _ hij p3 q3
      have e1 : (l[i]).1 = i := by omega
      have e2 : (l[j]).1 = j := by omega
      rcases r2 with r2 | r2
      · exact .inl ⟨b, by rw [e2]; exact r1, by rw [e1]; simpa using r2⟩
      · exact .inr r2
    · intro i o ho hi
      have hi' : i < ops.size := (Array.getElem?_eq_some_iff.1 ho).1
      simp [Array.getD_eq_getD_getElem?, hi'] at hi
    · intro x hx j hj hN'
      have := hN _ hN'
      omega
    · intro b hb
      have := hN b hb
      omega
  · intro β' N' a' w' hg hN'
    refine hQ β' N' a' w' ⟨hg.sim, hg.defers, ?_, hg.more⟩ fun b hb => ?_
    · have e := hg.fr
      rw [look_pad] at e
      exact ⟨e.os, e.tape, e.output, e.size, e.blk, e.shape⟩
    · have h1 := hN' b hb
      have h2 := Seq.len l _ _ _ _ g1
      rw [hpl] at h2
      omega

structure Way (X : Blocks) (k0 : Nat) (β : Map) (w : World) (B : Boxes) (d : List Deferred) (β' : Map) (N' : Nat → Prop) (env' : Env) (B' : Boxes) (a' : Act) (w' : World) : Prop where
  sim : SimA X β' N' w' env' a' B'
  defers : a'.defers = d
  fr : Fr (Own β (look B)) w (Own β' (look B')) w'
  more : ∀ b, b < k0 → N' b ∧ β' b = β b
  dom : ∀ b, N' b → b < B'.length

theorem Way.trans {k0 : Nat} {β β' β'' : Map} {N' N'' : Nat → Prop} {w w' w'' : World} {B B' B'' : Boxes} {d : List Deferred} {env' env'' : Env} {a' a'' : Act}
    (h : Way X k0 β w B d β' N' env' B' a' w') (k : Way X k0 β' w' B' a'.defers β'' N'' env'' B'' a'' w'') : Way X k0 β w B d β'' N'' env'' B'' a'' w'' :=
  ⟨k.sim, k.defers.trans h.defers, h.fr.trans k.fr, fun b hb => ⟨(k.more b hb).1, (k.more b hb).2.trans (h.more b hb).2⟩, k.dom⟩

theorem Gone.way {k0 : Nat} {β β' : Map} {N N' : Nat → Prop} {w w' : World} {B B' : Boxes} {d : List Deferred} {env' : Env} {a' : Act}
    (h : Gone X β N w B d β' N' env' B' a' w') (hk : ∀ b, b < k0 → N b) (hN : ∀ b, N' b → b < B'.length) : Way X k0 β w B d β' N' env' B' a' w' :=
  ⟨h.sim, h.defers, h.fr, fun b hb => h.more b (hk b hb), hN⟩

theorem compact_sound {k0 : Nat} {env env' : Env} {B B' : Boxes} {β : Map} {N : Nat → Prop} {w : World} {vs : List Value} (hS : SimB X β N w (look B)) (hr : (compact k0 env B).run = some (env', B')) (hv : VRs (All X β (look B)) β N w env vs) :
    ∃ β', SimB X β' (· < B'.length) w (look B') ∧ VRs (All X β' (look B')) β' (· < B'.length) w env' vs ∧ Fr (Own β (look B)) w (Own β' (look B')) w ∧ ∀ b, b < k0 → b < B'.length ∧ β' b = β b := by
  unfold compact at hr
  simp only at hr
  generalize reachGo B 1000 [] (List.range k0 ++ AV.refs.refsL env) = rs at hr
  obtain ⟨h1, h2⟩ := (M.run_ifb _ _ _).1 hr
  obtain ⟨env1, h3, h4⟩ := run_bind_some h2
  obtain ⟨B1, h5, h6⟩ := run_bind_some h4
  simp only [M.run, Option.some.injEq, Prod.mk.injEq] at h6
  obtain ⟨rfl, rfl⟩ := h6
  have h3' := optM_run h3
  have ownLt : ∀ c, Own β (look B) c → c < w.heap.size := by
    rintro c ⟨b, h1, h2⟩
    exact hS.lt (fun e => by rw [e] at h1; simp [Box.live] at h1) h2
  obtain ⟨_, _, hown0, _, _⟩ := pick_sound (X' := fun c => All X β (look B) c ∧ ¬ Own (pickMap β rs) (look B1) c) hS (fun _ _ => rfl) h5 (fun c h => h.1) (fun c h => h.1.elim (hS.old c) (ownLt c)) (fun c h h' => h'.2 h)
  have hsub : ∀ c, Own (pickMap β rs) (look B1) c → Own β (look B) c := fun c h => by obtain ⟨b, _, q1, q2⟩ := hown0 c h; exact ⟨b, q1, q2⟩
  obtain ⟨hSc, hlen, hownc, hnd, hgetc⟩ := pick_sound (X' := X) hS (fun _ _ => rfl) h5 (fun c h => .inl h) hS.old (fun c h => hS.apart c (hsub c h))
  rw [hlen]
  refine ⟨pickMap β rs, hSc, ?_, ?_, ?_⟩
  · exact VRs.ren (X := All X β (look B)) (β := β) (β' := pickMap β rs) (N := N) (N' := (· < rs.length)) (idxIn rs) (fun b b' h hN => pick_names b b' h hN) (by
      rintro c (h | h)
      · exact .inl h
      · exact .inr (hsub c h)) env _ vs h3' hv
  · exact ⟨rfl, rfl, rfl, Nat.le_refl _, fun c _ h => ⟨fun h' => h (hsub c h'), rfl⟩, fun c arr e fz h => ⟨arr, fz, h, rfl⟩⟩
  · intro b hb
    simp only [List.all_eq_true] at h1
    have := h1 b (List.mem_range.2 hb)
    have h7 : rs[b]? = some b := by simpa using this
    exact ⟨(List.getElem?_eq_some_iff.1 h7).1, by simp [pickMap, h7]⟩

theorem VRs.of_slots {Y : Blocks} {β : Map} {N : Nat → Prop} {w : World} {env : Env} {tmps : Array Value} (hl : env.length = tmps.size) (h : ∀ i, VR Y β N w (env.getD i .top) (tmps.getD i undef)) : VRs Y β N w env tmps.toList := by
  refine VRs.mk _ _ (by simpa using hl) fun j a v ha hv => ?_
  have := h j
  rw [List.getD_eq_getElem?_getD, ha, Array.getD_eq_getD_getElem?, ← Array.getElem?_toList, hv] at this
  exact this

theorem VRs.slots {Y : Blocks} {β : Map} {N : Nat → Prop} {w : World} {env : Env} {tmps : Array Value} (h : VRs Y β N w env tmps.toList) : env.length = tmps.size ∧ ∀ i, VR Y β N w (env.getD i .top) (tmps.getD i undef) := by
  have hl := VRs.len _ _ h
  refine ⟨by simpa using hl, fun i => ?_⟩
  cases ha : env[i]? with
  | none => rw [List.getD_eq_getElem?_getD, ha]; exact VR.top_iff.2 trivial
  | some a =>
    have hi : i < tmps.size := by
      have := (List.getElem?_eq_some_iff.1 ha).1
      simp at hl; omega
    have := VRs.get _ _ h i a tmps[i] ha (by simp [hi])
    simpa [List.getD_eq_getElem?_getD, ha, Array.getD_eq_getD_getElem?, hi] using this

theorem clear_get (keep : Nat) (env : Env) (i : Nat) : (clear keep env).getD i .top = env.getD i .top ∨ (clear keep env).getD i .top = .top := by
  unfold clear
  rw [List.getD_eq_getElem?_getD, List.getElem?_mapIdx, List.getD_eq_getElem?_getD]
  cases env[i]? with
  | none => exact .inl rfl
  | some v =>
    simp only [Option.map_some, Option.getD_some]
    cases keep.testBit i
    · exact .inr rfl
    · exact .inl rfl

theorem head_sound {h : Hd} {k0 keep : Nat} {env env' : Env} {B B' : Boxes} {β : Map} {N : Nat → Prop} {w : World} {a : Act} (hS : SimA X β N w env a B) (hr : (head h k0 keep env B).run = some (env', B')) :
    ∃ β', Way X k0 β w B a.defers β' (· < B'.length) env' B' a w := by
  have hs : ∀ i, VR (All X β (look B)) β N w ((clear keep env).getD i .top) (a.tmps.getD i undef) := by
    intro i
    rcases clear_get keep env i with h | h
    · rw [h]; exact hS.slot i
    · rw [h]; exact VR.top_iff.2 trivial
  have hv := VRs.of_slots (by simp [clear, hS.len]) hs
  unfold head at hr
  obtain ⟨⟨e1, C1⟩, hr0, hr⟩ := run_bind_some hr
  obtain ⟨f1, f2, f3⟩ := frz_sound _ _ _ _ _ hS.heap hv hr0
  obtain ⟨⟨e0, C0⟩, hr1, hr2⟩ := run_bind_some hr
  simp only [M.run, Option.some.injEq, Prod.mk.injEq] at hr2
  obtain ⟨rfl, rfl⟩ := hr2
  obtain ⟨β', q1, q2, q3, q4⟩ := compact_sound f1 hr1 f2
  have q3 := f3.trans q3
  obtain ⟨r1, r2⟩ := VRs.slots q2
  obtain ⟨u1, u2⟩ := headB_sound h.box C0 q1
  have hall : All X β' (look (headB h.box C0)) = All X β' (look C0) := by
    funext c
    simp only [All, u2]
  rw [headB_len]
  refine ⟨β', ⟨u1, by rw [headE_len]; exact r1, fun i => ?_⟩, rfl, by rw [u2]; exact q3, q4, fun b hb => by rw [headB_len]; exact hb⟩
  rw [hall]
  exact headE_sound h.env e0 r2 i

def AEx.ex : AEx → Exit
  | .normal => .normal
  | .exit id => .exit id
  | .ret => .ret

theorem rd_sound (P : Program) {x : Operand} {c : AArg} (h : compArg x = some c) {Y : Blocks} {β : Map} {N : Nat → Prop} {w : World} {env : Env} {a : Act} (hS : ∀ i, VR Y β N w (env.getD i .top) (a.tmps.getD i undef)) : VR Y β N w (rdA env c) (a.eval x) := by
  have := compArgs_VR (P := P) a env hS [x] [c] (by simp [compArgs, h])
  unfold VRs at this
  exact this.1

theorem evC_sound (hm : P.follows .mixedOrders = true) (hok : CallOK P call) (n k0 : Nat) (hd : Nat → Hd) : ∀ (c : Code) (ret live : Nat) (ex : List (Nat × Nat)) (ac : AC) (la : Nat), compC P ret c live ex = some (ac, la) →
    ∀ {Q : Exit → Act → World → Prop} {β : Map} {N : Nat → Prop} {w : World} {env env' : Env} {a : Act} {B B' : Boxes} {e : AEx}, SimA X β N w env a B → (∀ b, N b → b < B.length) → (∀ b, b < k0 → N b) → (evC byref call n k0 hd ac env B).run = some (e, env', B') →
    (∀ β' N' a' w', Way X k0 β w B a.defers β' N' env' B' a' w' → Q e.ex a' w') → c.wp P Q a w := by
  intro c
  induction c with
  | skip =>
    intro ret live ex ac la hc Q β N w env env' a B B' e hS hN hk hr hQ
    simp only [compC, Option.some.injEq, Prod.mk.injEq] at hc
    obtain ⟨rfl, rfl⟩ := hc
    simp only [evC, M.run, Option.some.injEq, Prod.mk.injEq] at hr
    obtain ⟨rfl, rfl, rfl⟩ := hr
    exact wp_skip (hQ β N a w ((Gone.refl hS).way hk hN))
  | label l =>
    intro ret live ex ac la hc Q β N w env env' a B B' e hS hN hk hr hQ
    simp only [compC, Option.some.injEq, Prod.mk.injEq] at hc
    obtain ⟨rfl, rfl⟩ := hc
    simp only [evC, M.run, Option.some.injEq, Prod.mk.injEq] at hr
    obtain ⟨rfl, rfl, rfl⟩ := hr
    exact wp_label (hQ β N a w ((Gone.refl hS).way hk hN))
  | exit id =>
    intro ret live ex ac la hc Q β N w env env' a B B' e hS hN hk hr hQ
    simp only [compC, Option.some.injEq, Prod.mk.injEq] at hc
    obtain ⟨rfl, rfl⟩ := hc
    simp only [evC, M.run, Option.some.injEq, Prod.mk.injEq] at hr
    obtain ⟨rfl, rfl, rfl⟩ := hr
    exact wp_exit (hQ β N a w ((Gone.refl hS).way hk hN))
  | ret =>
    intro ret live ex ac la hc Q β N w env env' a B B' e hS hN hk hr hQ
    simp only [compC, Option.some.injEq, Prod.mk.injEq] at hc
    obtain ⟨rfl, rfl⟩ := hc
    simp only [evC, M.run, Option.some.injEq, Prod.mk.injEq] at hr
    obtain ⟨rfl, rfl, rfl⟩ := hr
    exact wp_ret (hQ β N a w ((Gone.refl hS).way hk hN))
  | region id ops draw =>
    intro ret live ex ac la hc Q β N w env env' a B B' e hS hN hk hr hQ
    simp only [compC] at hc
    split at hc
    · rename_i as has
      split at hc
      · cases hc
      · rename_i hed
        simp only [Option.some.injEq, Prod.mk.injEq] at hc
        obtain ⟨rfl, rfl⟩ := hc
        cases draw with
        | false =>
          simp only [cond_false, evC] at hr
          obtain ⟨⟨e1, B1⟩, h1, h2⟩ := run_bind_some hr
          simp only [M.run, Option.some.injEq, Prod.mk.injEq] at h2
          obtain ⟨rfl, rfl, rfl⟩ := h2
          exact wp_region_list (list_sound hok _ as has hS hN h1 fun β' N' a' w' hg hN' => hQ β' N' a' w' (hg.way hk hN'))
        | true =>
          simp only [cond_true, evC] at hr
          obtain ⟨⟨e1, B1⟩, h1, h2⟩ := run_bind_some hr
          simp only [M.run, Option.some.injEq, Prod.mk.injEq] at h2
          obtain ⟨rfl, rfl, rfl⟩ := h2
          exact draw_sound hm hok has (by simpa using hed) hS hN h1 fun β' N' a' w' hg hN' => hQ β' N' a' w' (hg.way hk hN')
    · cases hc
  | seq x y ihx ihy =>
    intro ret live ex ac la hc Q β N w env env' a B B' e hS hN hk hr hQ
    simp only [compC] at hc
    split at hc
    · rename_i b' lb hb
      split at hc
      · rename_i a' la' ha
        simp only [Option.some.injEq, Prod.mk.injEq] at hc
        obtain ⟨rfl, rfl⟩ := hc
        simp only [evC] at hr
        obtain ⟨⟨e1, env1, B1⟩, h1, h2⟩ := run_bind_some hr
        simp only at h2
        refine wp_seq (ihx _ _ _ _ _ ha hS hN hk h1 fun β1 N1 a1 w1 hw => ?_)
        cases e1 with
        | normal =>
          exact ihy _ _ _ _ _ hb hw.sim hw.dom (fun b hb => (hw.more b hb).1) h2 fun β2 N2 a2 w2 hw2 => hQ β2 N2 a2 w2 (hw.trans hw2)
        | exit id =>
          simp only [M.run, Option.some.injEq, Prod.mk.injEq] at h2
          obtain ⟨rfl, rfl, rfl⟩ := h2
          exact hQ β1 N1 a1 w1 hw
        | ret =>
          simp only [M.run, Option.some.injEq, Prod.mk.injEq] at h2
          obtain ⟨rfl, rfl, rfl⟩ := h2
          exact hQ β1 N1 a1 w1 hw
      · cases hc
    · cases hc
  | cond x y z ihy ihz =>
    intro ret live ex ac la hc Q β N w env env' a B B' e hS hN hk hr hQ
    simp only [compC] at hc
    split at hc
    · rename_i c' a' la' b' lb' hx hy hz
      simp only [Option.some.injEq, Prod.mk.injEq] at hc
      obtain ⟨rfl, rfl⟩ := hc
      simp only [evC] at hr
      have hv := rd_sound P hx hS.slot
      split at hr
      · rename_i t ht
        rw [ht] at hv
        have hc := VR.d_iff.1 hv
        simp only [M.run] at hr
        refine wp_cond (t := t) hc ?_
        cases t with
        | true => exact ihy _ _ _ _ _ hy hS hN hk hr hQ
        | false => exact ihz _ _ _ _ _ hz hS hN hk hr hQ
      · simp [M.run] at hr
    · cases hc
  | block id x ih =>
    intro ret live ex ac la hc Q β N w env env' a B B' e hS hN hk hr hQ
    simp only [compC] at hc
    split at hc
    · rename_i a' la' ha
      simp only [Option.some.injEq, Prod.mk.injEq] at hc
      obtain ⟨rfl, rfl⟩ := hc
      simp only [evC] at hr
      obtain ⟨⟨e1, env1, B1⟩, h1, h2⟩ := run_bind_some hr
      simp only at h2
      refine wp_block (ih _ _ _ _ _ ha hS hN hk h1 fun β1 N1 a1 w1 hw => ?_)
      cases e1 with
      | normal =>
        simp only [M.run, Option.some.injEq, Prod.mk.injEq] at h2
        obtain ⟨rfl, rfl, rfl⟩ := h2
        exact hQ β1 N1 a1 w1 hw
      | exit id' =>
        simp only [M.run, Option.some.injEq, Prod.mk.injEq] at h2
        obtain ⟨rfl, rfl, rfl⟩ := h2
        have := hQ β1 N1 a1 w1 hw
        simp only [AEx.ex, Exit.inBlock]
        split
        · rename_i h; rw [if_pos h] at this; exact this
        · rename_i h; rw [if_neg h] at this; exact this
      | ret =>
        simp only [M.run, Option.some.injEq, Prod.mk.injEq] at h2
        obtain ⟨rfl, rfl, rfl⟩ := h2
        exact hQ β1 N1 a1 w1 hw
    · cases hc
  | loop x ih =>
    intro ret live ex ac la hc Q β N w env env' a B B' e hS hN hk hr hQ
    simp only [compC] at hc
    split at hc
    · rename_i a0 la0 ha0
      split at hc
      · rename_i a1 h1' ha1
        split at hc
        · rename_i a2 h2' ha2
          simp only [Option.some.injEq, Prod.mk.injEq] at hc
          obtain ⟨rfl, rfl⟩ := hc
          simp only [evC] at hr
          refine wp_loop_rounds n ?_
          have key : ∀ (m : Nat) {β : Map} {N : Nat → Prop} {w : World} {env : Env} {a : Act} {B : Boxes}, SimA X β N w env a B → (loopN (hd h2') k0 h2' (evC byref call n k0 hd a2) m env B).run = some (e, env', B') →
              (∀ β' N' a' w', Way X k0 β w B a.defers β' N' env' B' a' w' → Q e.ex a' w') → Code.rounds P x Q m a w := by
            intro m
            induction m with
            | zero => intro β N w env a B _ hr; simp [loopN, M.run] at hr
            | succ m ihm =>
              intro β N w env a B hS hr hQ
              simp only [loopN] at hr
              obtain ⟨⟨env1, B1⟩, g1, g2⟩ := run_bind_some hr
              simp only at g2
              obtain ⟨⟨e2, env2, B2⟩, g3, g4⟩ := run_bind_some g2
              simp only at g4
              obtain ⟨β1, hw1⟩ := head_sound hS g1
              rw [rounds_succ]
              refine ih _ _ _ _ _ ha2 hw1.sim hw1.dom (fun b hb => (hw1.more b hb).1) g3 fun β2 N2 a2' w2 hw2 => ?_
              have hw := hw1.trans hw2
              cases e2 with
              | normal => exact ihm hw.sim g4 fun β3 N3 a3 w3 hw3 => hQ β3 N3 a3 w3 (hw.trans (by rw [hw.defers] at *; exact hw3))
              | exit id =>
                simp only [M.run, Option.some.injEq, Prod.mk.injEq] at g4
                obtain ⟨rfl, rfl, rfl⟩ := g4
                exact hQ β2 N2 a2' w2 hw
              | ret =>
                simp only [M.run, Option.some.injEq, Prod.mk.injEq] at g4
                obtain ⟨rfl, rfl, rfl⟩ := g4
                exact hQ β2 N2 a2' w2 hw
          exact key n hS hr hQ
        · cases hc
      · cases hc
    · cases hc
  | scope x ih =>
    intro ret live ex ac la hc Q β N w env env' a B B' e hS hN hk hr hQ
    simp only [compC] at hc
    refine wp_scope_straight (ih _ _ _ _ _ hc hS hN hk hr fun β' N' a' w' hw => ?_)
    have := hQ β' N' a' w' hw
    cases e <;> exact this
  | _ =>
    intro ret live ex ac la hc Q β N w env env' a B B' e hS hN hk hr hQ
    simp only [compC, Option.some.injEq, Prod.mk.injEq] at hc
    obtain ⟨rfl, rfl⟩ := hc
    simp [evC, M.run] at hr

end
end Go.Ev
