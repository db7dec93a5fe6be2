/- The evaluator's operations are the model's: all that are no calls. No condition. -/
import Derived.Test.YtnmakkgomplchaaGreatDoorEvQ
namespace Go.Ev
set_option linter.unusedVariables false
set_option linter.unusedSimpArgs false
set_option linter.unusedSectionVars false
variable [Ctx]
section
variable {P : Program} {X : Blocks} {β : Map} {N : Nat → Prop} {w : World} {L : Looks} {al : Nat} {ρ : Operand → Value} {o : Oper}
variable {byref : FuncId → Bool} {call : Caller} {B : Boxes} {op : AOp} {xs : List Operand} {as : List AV} {res : Res}

theorem updsL_other (L : Looks) : ∀ (ws : List (Nat × Box)) {b : Nat}, b ∉ ws.map (·.1) → updsL L ws b = L b := by
  intro ws
  induction ws generalizing L with
  | nil => intro b _; rfl
  | cons x ws ih =>
    intro b hb
    simp only [List.map_cons, List.mem_cons, not_or] at hb
    show updsL (updL L x.1 x.2) ws b = L b
    rw [ih _ hb.2]
    exact if_neg hb.1

theorem go_eqb {bop : BinOp} {ng : Bool} {t yt : TypeId} {x y : Operand} (ho : o.op = .binOp bop t x y yt) (hop : isNeg bop = some ng) (ht : P.underlying t = some .bool) (hS : SimB X β N w (look B)) (hal : ¬ N al) (hx : VRs (All X β (look B)) β N w as ([x, y].map ρ)) (hr : (evOp byref call (.eqb ng) as B al).run = some res) :
    Does P o ρ w (Step X β N w (look B) al (updsL (look B) res.writes) res.val) := by
  unfold evOp at hr
  split at hr <;> rename_i heq <;> first | (cases heq; done) | skip
  all_goals first | (simp [M.run] at hr; done) | skip
  cases heq
  obtain ⟨v1, v2, e, hv1, hv2⟩ := VRs.two hx
  simp at e
  obtain ⟨rfl, rfl⟩ := e
  simp only [M.run, Option.some.injEq] at hr
  subst hr
  exact does_eqb ho hop ht hS (VR.d_iff.1 hv1) (VR.d_iff.1 hv2)

theorem go_isnil {bop : BinOp} {ng : Bool} {k : Nat} {t yt : TypeId} {x y : Operand} (ho : o.op = .binOp bop t x y yt) (hop : isNeg bop = some ng) (hk : kindNil P t = some k) (hy : constNil y = some k) (hρ : ∀ u, ρ (.const u) = u) (hS : SimB X β N w (look B)) (hal : ¬ N al) (hx : VRs (All X β (look B)) β N w as ([x].map ρ)) (hr : (evOp byref call (.isnil ng k) as B al).run = some res) :
    Does P o ρ w (Step X β N w (look B) al (updsL (look B) res.writes) res.val) := by
  rcases as with _ | ⟨a, _ | ⟨b, r⟩⟩
  · simp [evOp, M.run] at hr
  rotate_left
  · simp [evOp, M.run] at hr
  obtain ⟨v, e, hv⟩ := VRs.one hx
  simp at e
  subst e
  simp only [evOp] at hr
  obtain ⟨r, h1, hr⟩ := run_bind_some hr
  simp only [M.run, Option.some.injEq] at hr
  subst hr
  exact does_isnil ho hop hS hv h1 hk hy fun u hu => by rw [hu]; exact hρ u

theorem go_eqs {bop : BinOp} {ng : Bool} {t yt : TypeId} {x y : Operand} {fs : Array Field} {ks : List Nat} (ho : o.op = .binOp bop t x y yt) (hop : isNeg bop = some ng) (ht : P.underlying t = some (.struct fs)) (hks : eqKinds P 0 fs.toList = some ks) (hp : P.stoodInHeld t = false) (hgt : P.eqGuardType P.depth t = false) (hS : SimB X β N w (look B)) (hal : ¬ N al) (hx : VRs (All X β (look B)) β N w as ([x, y].map ρ)) (hr : (evOp byref call (.eqs ng ks) as B al).run = some res) :
    Does P o ρ w (Step X β N w (look B) al (updsL (look B) res.writes) res.val) := by
  unfold evOp at hr
  split at hr <;> rename_i heq <;> first | (cases heq; done) | skip
  all_goals first | (simp [M.run] at hr; done) | skip
  cases heq
  obtain ⟨v1, v2, e, hv1, hv2⟩ := VRs.two hx
  simp at e
  obtain ⟨rfl, rfl⟩ := e
  obtain ⟨r, h1, hr⟩ := run_bind_some hr
  simp only [M.run, Option.some.injEq] at hr
  subst hr
  exact does_eqs ho hop ht hks hp hgt hS hv1 hv2 h1

theorem go_ext {x : Operand} {i : Nat} (ho : o.op = .extract x i) (hS : SimB X β N w (look B)) (hal : ¬ N al) (hx : VRs (All X β (look B)) β N w as ([x].map ρ)) (hr : (evOp byref call (.ext i) as B al).run = some res) :
    Does P o ρ w (Step X β N w (look B) al (updsL (look B) res.writes) res.val) := by
  unfold evOp at hr
  split at hr <;> rename_i heq <;> first | (cases heq; done) | skip
  all_goals first | (simp [M.run] at hr; done) | skip
  cases heq
  obtain ⟨v, e, hv⟩ := VRs.one hx
  simp at e
  subst e
  split at hr
  · rename_i h
    simp only [M.run, Option.some.injEq] at hr
    subst hr
    exact does_ext ho hS hv h
  · simp [M.run] at hr

theorem go_store {t : TypeId} {x y : Operand} {n : Nat} (ho : o.op = .store t x y) (hn : sizeT P t = some n) (hS : SimB X β N w (look B)) (hal : ¬ N al) (hx : VRs (All X β (look B)) β N w as ([x, y].map ρ)) (hr : (evOp byref call (.store n) as B al).run = some res) :
    Does P o ρ w (Step X β N w (look B) al (updsL (look B) res.writes) res.val) := by
  rcases as with _ | ⟨a, _ | ⟨b, _ | ⟨c', r⟩⟩⟩
  · simp [evOp, M.run] at hr
  · simp [evOp, M.run] at hr
  rotate_left
  · simp [evOp, M.run] at hr
  obtain ⟨v1, v2, e, hv1, hv2⟩ := VRs.two hx
  simp at e
  obtain ⟨rfl, rfl⟩ := e
  simp only [evOp] at hr
  rw [M.run_ifb] at hr
  obtain ⟨h0, hr⟩ := hr
  simp only [Bool.and_eq_true, beq_iff_eq] at h0
  obtain ⟨hlen, hcell⟩ := h0
  split at hr
  · split at hr
    · rename_i l hl
      rw [M.run_ifb] at hr
      obtain ⟨hle, hr⟩ := hr
      simp only [M.run, Option.some.injEq] at hr
      subst hr
      exact does_store_ptr ho hn hS hv1 hl hv2 hcell hlen (Nat.le_of_ble_eq_true hle)
    · simp [M.run] at hr
  · split at hr
    · rename_i b0 i sz off _ ty l hl
      rw [M.run_ifb, M.run_chk] at hr
      obtain ⟨h1, h2, hr⟩ := hr
      simp only [Bool.and_eq_true, beq_iff_eq] at h1
      obtain ⟨rfl, h1⟩ := h1
      have h2' : i < l.length := by simpa using h2
      obtain ⟨⟨cs, ws⟩, h3, hr⟩ := run_bind_some hr
      rw [M.run_ifb] at hr
      obtain ⟨h4, hr⟩ := hr
      obtain ⟨z, h5, hr⟩ := run_bind_some hr
      simp only [M.run, Option.some.injEq] at hr
      subst hr
      obtain ⟨c1, c2⟩ := cells_VR hv2 (toDs_isCell _ _ h3)
      obtain ⟨a1, a2, a3, a4⟩ := toDs_sound b.cells cs ws _ (look B) hS (Cl.refl _) h3 c1
      have hL : updsL (look B) ws b0 = .arr ty l true := by
        rw [updsL_other _ _ (by simpa using h4)]
        exact hl
      have hg : l.getD i ty.dflt = l[i] := by simp [List.getD_eq_getElem?_getD, List.getElem?_eq_getElem h2']
      have hcl : cs.length = n := by
        have e1 := (VRds_iff cs _).1 a3 |>.1
        have e2 := VRs.len _ _ c1
        omega
      have hd := decAll_run h5
      rw [hg] at hd
      have mv := mv_cl (X := X) (N := N) a2
      obtain ⟨v', w', q1, q2⟩ := does_store_eptr (val := b) (al := al) ho hn a1 (hv1.move mv) hL h2' (Nat.le_of_ble_eq_true h1) a3 c2 hcl hd
      obtain ⟨β', N', s1, s2, s3, s4, s5⟩ := q2
      refine ⟨v', w', q1, β', N', ?_, ?_, ?_, s4, ?_⟩
      · rw [updsL_append]; exact s1
      · rw [updsL_append]; exact s2
      · rw [updsL_append]; exact a2.trans s3
      · rw [updsL_append]; exact s5
    · simp [M.run] at hr
  · simp [M.run] at hr

theorem go_len_str {c : Call} {t : TypeId} (ho : o.op = .call c) (hc : c.callee = .builtin .len) (ht : c.argTypes[0]? = some t) (hu : P.underlying t = some .string) (hS : SimB X β N w (look B)) (hal : ¬ N al) (hx : VRs (All X β (look B)) β N w as (c.args.toList.map ρ)) (hr : (evOp byref call (.len true) as B al).run = some res) :
    Does P o ρ w (Step X β N w (look B) al (updsL (look B) res.writes) res.val) := by
  rcases as with _ | ⟨a, _ | ⟨b, r⟩⟩
  · simp [evOp, M.run] at hr
  rotate_left
  · simp [evOp, M.run] at hr
  obtain ⟨v, e, hv⟩ := VRs.one hx
  obtain ⟨xo, ha, rfl⟩ : ∃ xo, c.args.toList = [xo] ∧ ρ xo = v := by
    cases hq : c.args.toList with
    | nil => rw [hq] at e; simp at e
    | cons p ps =>
      rw [hq] at e
      simp at e
      exact ⟨p, by rw [e.2], e.1⟩
  simp only [evOp] at hr
  split at hr
  · simp only [M.run, Option.some.injEq] at hr
    subst hr
    exact does_len ho hc ha ht (.inr hu) hS hv (.inl ⟨hu, _, rfl, rfl⟩)
  · simp [M.run] at hr

theorem go_len_sl {c : Call} {t e : TypeId} (ho : o.op = .call c) (hc : c.callee = .builtin .len) (ht : c.argTypes[0]? = some t) (hu : P.underlying t = some (.slice e)) (hS : SimB X β N w (look B)) (hal : ¬ N al) (hx : VRs (All X β (look B)) β N w as (c.args.toList.map ρ)) (hr : (evOp byref call (.len false) as B al).run = some res) :
    Does P o ρ w (Step X β N w (look B) al (updsL (look B) res.writes) res.val) := by
  rcases as with _ | ⟨a, _ | ⟨b, r⟩⟩
  · simp [evOp, M.run] at hr
  rotate_left
  · simp [evOp, M.run] at hr
  obtain ⟨v, e0, hv⟩ := VRs.one hx
  obtain ⟨xo, ha, rfl⟩ : ∃ xo, c.args.toList = [xo] ∧ ρ xo = v := by
    cases hq : c.args.toList with
    | nil => rw [hq] at e0; simp at e0
    | cons p ps =>
      rw [hq] at e0
      simp at e0
      exact ⟨p, by rw [e0.2], e0.1⟩
  simp only [evOp] at hr
  split at hr
  · rename_i ty l
    simp only [M.run, Option.some.injEq] at hr
    subst hr
    have hq : RD (All X β (look B)) w (.sl ty) l (fun _ => some (ρ xo)) := VR.d_iff.1 hv
    obtain ⟨v', e1, h⟩ := RD.slice hq
    cases e1
    rcases h with ⟨q, qc, h1, _, h2⟩ | ⟨c1, off, cap, h1, _⟩
    · exact does_len ho hc ha ht (.inl ⟨e, hu⟩) hS hv (.inr ⟨⟨e, hu⟩, q, qc, by rw [h1, h2]; rfl⟩)
    · exact does_len ho hc ha ht (.inl ⟨e, hu⟩) hS hv (.inr ⟨⟨e, hu⟩, _, _, h1⟩)
  · simp only [M.run, Option.some.injEq] at hr
    subst hr
    exact does_len (n := 0) ho hc ha ht (.inl ⟨e, hu⟩) hS hv (.inr ⟨⟨e, hu⟩, none, 0, VR.d_iff.1 hv⟩)
  · simp only [M.run, Option.some.injEq] at hr
    subst hr
    obtain ⟨_, _, h⟩ := VR.sr_iff.1 hv
    rcases h with ⟨_, h1, _, rfl, _⟩ | ⟨c1, k, _, h1, _⟩
    · exact does_len ho hc ha ht (.inl ⟨e, hu⟩) hS hv (.inr ⟨⟨e, hu⟩, none, 0, h1⟩)
    · exact does_len ho hc ha ht (.inl ⟨e, hu⟩) hS hv (.inr ⟨⟨e, hu⟩, _, _, h1⟩)
  · simp [M.run] at hr

theorem go_mini {c : Call} (ho : o.op = .call c) (hc : c.callee = .builtin .min) (hS : SimB X β N w (look B)) (hal : ¬ N al) (hx : VRs (All X β (look B)) β N w as (c.args.toList.map ρ)) (hr : (evOp byref call .mini as B al).run = some res) :
    Does P o ρ w (Step X β N w (look B) al (updsL (look B) res.writes) res.val) := by
  cases as with
  | nil => simp [evOp, M.run] at hr
  | cons a as =>
    simp only [evOp] at hr
    obtain ⟨r, h1, hr⟩ := run_bind_some hr
    simp only [M.run, Option.some.injEq] at hr
    subst hr
    exact does_min ho hc hS hx h1

theorem go_maxi {c : Call} (ho : o.op = .call c) (hc : c.callee = .builtin .max) (hS : SimB X β N w (look B)) (hal : ¬ N al) (hx : VRs (All X β (look B)) β N w as (c.args.toList.map ρ)) (hr : (evOp byref call .maxi as B al).run = some res) :
    Does P o ρ w (Step X β N w (look B) al (updsL (look B) res.writes) res.val) := by
  cases as with
  | nil => simp [evOp, M.run] at hr
  | cons a as =>
    simp only [evOp] at hr
    obtain ⟨r, h1, hr⟩ := run_bind_some hr
    simp only [M.run, Option.some.injEq] at hr
    subst hr
    exact does_max ho hc hS hx h1

theorem go_clo {f : FuncId} {first caps : Array Operand} (ho : o.op = .makeFunc (.func f) first caps) (hf : first.isEmpty = true) (hS : SimB X β N w (look B)) (hal : ¬ N al) (hx : VRs (All X β (look B)) β N w as (caps.toList.map ρ)) (hr : (evOp byref call (.clo f) as B al).run = some res) :
    Does P o ρ w (Step X β N w (look B) al (updsL (look B) res.writes) res.val) := by
  simp only [evOp, M.run, Option.some.injEq] at hr
  subst hr
  exact does_clo ho hf hS hx

theorem go_mk {t e : TypeId} {lo co : Operand} {ty : Ty} {by_ : Nat} (ho : o.op = .makeSlice t lo co) (hu : P.underlying t = some (.slice e)) (hn : sizeT P e = some ty.size) (h0 : 0 < ty.size) (hby : bytesT P e = some by_) (hz : zeroT P e ty = true) (hS : SimB X β N w (look B)) (hal : ¬ N al) (htag : Ctx.tag ty e) (hx : VRs (All X β (look B)) β N w as ([lo, co].map ρ)) (hr : (evOp byref call (.mk ty by_) as B al).run = some res) :
    Does P o ρ w (Step X β N w (look B) al (updsL (look B) res.writes) res.val) := by
  rcases as with _ | ⟨a, _ | ⟨b, _ | ⟨c', r⟩⟩⟩
  · simp [evOp, M.run] at hr
  · simp [evOp, M.run] at hr
  rotate_left
  · simp [evOp, M.run] at hr
  obtain ⟨v1, v2, e, hv1, hv2⟩ := VRs.two hx
  simp at e
  obtain ⟨rfl, rfl⟩ := e
  have isInt : ∀ {a : AV} {n : Int} {v : Value}, (asI a).run = some n → VR (All X β (look B)) β N w a v → ∃ k, v = .int k n := by
    intro a n v h hv
    unfold asI at h
    split at h
    · simp [M.run] at h; subst h; exact ⟨_, VR.d_iff.1 hv⟩
    · simp [M.run] at h
  simp only [evOp] at hr
  obtain ⟨n, h1, hr⟩ := run_bind_some hr
  obtain ⟨c, h2, hr⟩ := run_bind_some hr
  rw [M.run_ifb, M.run_chk, M.run_chk] at hr
  obtain ⟨_, h3, h4, hr⟩ := hr
  simp only [M.run, Option.some.injEq] at hr
  subst hr
  obtain ⟨k, e1⟩ := isInt h1 hv1
  obtain ⟨k', e2⟩ := isInt h2 hv2
  simp only [Bool.and_eq_true, decide_eq_true_eq] at h3 h4
  exact does_mk ho hu hn h0 hby hz hS hal htag e1 e2 h3.1 h3.2 h4.1 h4.2

theorem go_cpy {c : Call} {t u e : TypeId} {n : Nat} (ho : o.op = .call c) (hc : c.callee = .builtin .copy) (ht : c.argTypes.toList = [t, u]) (hu : P.underlying t = some (.slice e)) (hn : sizeT P e = some n) (hS : SimB X β N w (look B)) (hal : ¬ N al) (hx : VRs (All X β (look B)) β N w as (c.args.toList.map ρ)) (hr : (evOp byref call (.cpy n) as B al).run = some res) :
    Does P o ρ w (Step X β N w (look B) al (updsL (look B) res.writes) res.val) := by
  rcases as with _ | ⟨a, _ | ⟨b, _ | ⟨c', r⟩⟩⟩
  · simp [evOp, M.run] at hr
  · simp [evOp, M.run] at hr
  rotate_left
  · simp [evOp, M.run] at hr
  obtain ⟨v1, v2, e0, hv1, hv2⟩ := VRs.two hx
  obtain ⟨xo, yo, ha, rfl, rfl⟩ : ∃ xo yo, c.args.toList = [xo, yo] ∧ ρ xo = v1 ∧ ρ yo = v2 := by
    cases hq : c.args.toList with
    | nil => rw [hq] at e0; simp at e0
    | cons p ps =>
      rw [hq] at e0
      cases ps with
      | nil => simp at e0
      | cons q qs =>
        simp at e0
        exact ⟨p, q, by rw [e0.2.2], e0.1, e0.2.1⟩
  simp only [evOp] at hr
  split at hr
  · split at hr
    · rename_i b0 off len sz cap _ ty l hl
      rw [M.run_ifb, M.run_chk] at hr
      obtain ⟨h1, h2, hr⟩ := hr
      simp only [Bool.and_eq_true, beq_iff_eq] at h1
      obtain ⟨⟨rfl, h1⟩, h3⟩ := h1
      subst h1
      obtain ⟨⟨m, ys, ry⟩, h4, hr⟩ := run_bind_some hr
      obtain ⟨h5, hr⟩ := (M.run_chk _ _ _).1 hr
      simp only [M.run, Option.some.injEq] at hr
      subst hr
      exact does_cpy ho hc ha ht hu hn (by simpa [Nat.blt_eq] using h3) hS hv1 hl (by simpa using h2) hv2 h4 (of_decide_eq_true h5)
    · simp [M.run] at hr
  · simp [M.run] at hr

theorem go_clr {c : Call} {t e : TypeId} {ty0 : Ty} (ho : o.op = .call c) (hc : c.callee = .builtin .clear) (ht : c.argTypes.toList = [t]) (hu : P.underlying t = some (.slice e)) (hn : sizeT P e = some ty0.size) (h0 : 0 < ty0.size) (hz : zeroT P e ty0 = true) (hS : SimB X β N w (look B)) (hal : ¬ N al) (hx : VRs (All X β (look B)) β N w as (c.args.toList.map ρ)) (hr : (evOp byref call (.clr ty0) as B al).run = some res) :
    Does P o ρ w (Step X β N w (look B) al (updsL (look B) res.writes) res.val) := by
  rcases as with _ | ⟨a, _ | ⟨b, r⟩⟩
  · simp [evOp, M.run] at hr
  rotate_left
  · simp [evOp, M.run] at hr
  obtain ⟨v, e, hv⟩ := VRs.one hx
  obtain ⟨xo, ha, rfl⟩ : ∃ xo, c.args.toList = [xo] ∧ ρ xo = v := by
    cases hq : c.args.toList with
    | nil => rw [hq] at e; simp at e
    | cons p ps =>
      rw [hq] at e
      simp at e
      exact ⟨p, by rw [e.2], e.1⟩
  simp only [evOp] at hr
  split at hr
  · split at hr
    · rename_i b0 off len sz cap _ ty l hl
      split at hr
      · rename_i ht0
        subst ht0
        rw [M.run_ifb, M.run_chk] at hr
        obtain ⟨h1, h2, hr⟩ := hr
        simp only [beq_iff_eq] at h1
        subst h1
        simp only [M.run, Option.some.injEq] at hr
        subst hr
        exact does_clr ho hc ha ht hu hn h0 hz hS hv hl (by simpa using h2)
      · simp [M.run] at hr
    · simp [M.run] at hr
  · simp [M.run] at hr

theorem go_app {c : Call} {t u e : TypeId} {ty : Ty} {by_ : Nat} (ho : o.op = .call c) (hc : c.callee = .builtin .append) (ht : c.argTypes.toList = [t, u]) (hu : P.underlying t = some (.slice e)) (hni : NoInt P u) (hn : sizeT P e = some ty.size) (h0 : 0 < ty.size) (hby : bytesT P e = some by_) (hbp : 0 < by_) (hz : zeroT P e ty = true) (hS : SimB X β N w (look B)) (hal : ¬ N al) (htag : Ctx.tag ty e) (hx : VRs (All X β (look B)) β N w as (c.args.toList.map ρ)) (hr : (evOp byref call (.app ty by_) as B al).run = some res) :
    Does P o ρ w (Step X β N w (look B) al (updsL (look B) res.writes) res.val) := by
  rcases as with _ | ⟨a, _ | ⟨b, _ | ⟨c', r⟩⟩⟩
  · simp [evOp, M.run] at hr
  · simp [evOp, M.run] at hr
  rotate_left
  · simp [evOp, M.run] at hr
  obtain ⟨v1, v2, e0, hv1, hv2⟩ := VRs.two hx
  obtain ⟨xo, yo, ha, rfl, rfl⟩ : ∃ xo yo, c.args.toList = [xo, yo] ∧ ρ xo = v1 ∧ ρ yo = v2 := by
    cases hq : c.args.toList with
    | nil => rw [hq] at e0; simp at e0
    | cons p ps =>
      rw [hq] at e0
      cases ps with
      | nil => simp at e0
      | cons q qs =>
        simp at e0
        exact ⟨p, q, by rw [e0.2.2], e0.1, e0.2.1⟩
  simp only [evOp] at hr
  rw [M.run_ifb] at hr
  obtain ⟨_, hr⟩ := hr
  obtain ⟨⟨ys, ry⟩, h1, hr2⟩ := run_bind_some hr
  clear hr
  have hr := hr2
  clear hr2
  simp only at hr
  split at hr
  · -- nil
    obtain ⟨d1, d2⟩ := does_app_nil ho hc ha ht hu hni hn h0 hby hbp hz hS hal htag (VR.d_iff.1 hv1) hv2 h1
    simp only [M.run] at hr
    cases hys : ys.isEmpty with
    | true =>
      rw [hys] at hr
      simp only [cond_true, M.run, Option.some.injEq] at hr
      subst hr
      exact d1 (List.isEmpty_iff.1 hys)
    | false =>
      rw [hys] at hr
      simp only [cond_false] at hr
      rw [M.run_chk] at hr
      obtain ⟨h2, hr⟩ := hr
      simp only [M.run, Option.some.injEq] at hr
      subst hr
      exact d2 (by intro h; rw [h] at hys; simp at hys) (by simpa using h2)
  · rename_i b0 off len sz cap
    split at hr
    · rename_i t' l live hl
      split at hr
      · rename_i he
        subst he
        rw [M.run_ifb, M.run_chk] at hr
        obtain ⟨h2, h3, hr⟩ := hr
        simp only [beq_iff_eq] at h2
        subst h2
        split at hr
        · rw [M.run_ifb, M.run_chk] at hr
          obtain ⟨h4, h5, hr⟩ := hr
          simp only [Bool.and_eq_true, beq_iff_eq] at h4
          obtain ⟨rfl, rfl⟩ := h4
          have h5' : len = l.length := by simpa using h5
          subst h5'
          simp only [M.run, Option.some.injEq] at hr
          subst hr
          exact does_app_end ho hc ha ht hu hni hn h0 hby hbp hz hS hal htag hv1 hl hv2 h1 (by simpa using h3)
        · rename_i k
          rw [M.run_chk] at hr
          obtain ⟨h4, hr⟩ := hr
          obtain ⟨d1, d2⟩ := does_app_cap ho hc ha ht hu hni hn h0 hby hbp hz hS hal htag hv1 hl (by simpa using h4) hv2 h1 (by simpa using h3)
          simp only [M.run] at hr
          by_cases hk : len + ys.length ≤ k
          · simp only [hk, decide_true, cond_true] at hr
            rw [M.run_ifb] at hr
            obtain ⟨h6, hr⟩ := hr
            simp only [M.run, Option.some.injEq] at hr
            subst hr
            exact d1 hk h6
          · simp only [hk, decide_false, cond_false, M.run, Option.some.injEq] at hr
            subst hr
            exact d2 hk
      · simp [M.run] at hr
    · simp [M.run] at hr
  · simp [M.run] at hr

end
end Go.Ev
