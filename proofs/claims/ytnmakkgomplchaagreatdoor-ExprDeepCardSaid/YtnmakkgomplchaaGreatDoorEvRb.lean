/- Operations: nil interfaces, variables of a type that points at itself, SliceData and String of the package of raw memory. No condition. -/
import Derived.Test.YtnmakkgomplchaaGreatDoorEvRa
import Derived.Lib.UnsafeStr
import Derived.Lib.Overlaps
namespace Go.Ev
set_option linter.unusedVariables false
set_option linter.unusedSimpArgs false
set_option linter.unusedSectionVars false
variable [Ctx]

/-- A live box goes, and its block is frozen. -/
theorem SimB.retire {X : Blocks} {β : Map} {N : Nat → Prop} {w w' : World} {L : Looks} {b c : Nat} {arr : Array Value} {e : TypeId} {fz fz' : Nat × Nat}
    (h : SimB X β N w L) (hl : (L b).live = true) (hc : β b = some c) (ha : w.heap[c]? = some (.cells arr e fz)) (ha' : w'.heap[c]? = some (.cells arr e fz'))
    (hz : w'.heap.size = w.heap.size) (hos : w'.os = w.os) (htp : w'.tape = w.tape) (hou : w'.output = w.output) (hoth : ∀ k, k ≠ c → w'.heap[k]? = w.heap[k]?) :
    SimB X β N w' (updL L b .dead) ∧ Fr (Own β L) w (Own β (updL L b .dead)) w' := by
  have hown : ∀ k, Own β (updL L b .dead) k → Own β L k := by
    rintro k ⟨b', h1, h2⟩
    by_cases eb : b' = b
    · subst eb; simp [updL, Box.live] at h1
    · exact ⟨b', by simpa [updL, eb] using h1, h2⟩
  have hf : Fr (Own β L) w (Own β (updL L b .dead)) w' := by
    refine ⟨hos, htp, hou, by omega, fun k hk ho => ⟨fun ho' => ho (hown k ho'), hoth k fun e => ho (e ▸ ⟨b, hl, hc⟩)⟩, fun k a q fz2 hk => ?_⟩
    by_cases ek : k = c
    · subst ek
      rw [ha] at hk
      cases hk
      exact ⟨arr, _, ha', rfl⟩
    · exact ⟨a, fz2, by rw [hoth k ek]; exact hk, rfl⟩
  have mv := mv_of (X := X) hf (β' := β) (N := N) (N' := N) fun b hb => ⟨hb, rfl⟩
  refine ⟨⟨fun k ho => h.apart k (hown k ho), ?_, ?_, ?_, fun k hk => ?_, h.tabs' hf⟩, hf⟩
  · intro b1 b2 k l1 l2 e1 e2
    have g : ∀ b1, (updL L b .dead b1).live = true → (L b1).live = true := by
      intro b1 l1
      by_cases eb : b1 = b
      · subst eb; simp [updL, Box.live] at l1
      · simpa [updL, eb] using l1
    exact h.inj b1 b2 k (g b1 l1) (g b2 l2) e1 e2
  · intro b1
    by_cases eb : b1 = b
    · subst eb
      rw [show updL L b1 .dead b1 = .dead from if_pos rfl]
      trivial
    · rw [show updL L b .dead b1 = L b1 from if_neg eb]
      by_cases hd : L b1 = .dead
      · rw [hd]; trivial
      · refine (h.box b1).move mv (h.dom b1 hd) fun k hk hne => hoth k fun ek => ?_
        subst ek
        cases hq : (L b1).live with
        | true => exact eb (h.inj b1 b k hq hl hk hc)
        | false =>
          have hbx := h.box b1
          cases hL : L b1 with
          | dead => exact hne hL
          | cells l => rw [hL] at hq; simp [Box.live] at hq
          | arr t l m =>
            rw [hL] at hq hbx
            obtain ⟨_, hbx⟩ := hbx
            rcases hbx with ⟨g1, _⟩ | ⟨c', a1, e1, g1, g2, g3, g4, _⟩
            · rw [hk] at g1; cases g1
            · rw [hk] at g1
              cases g1
              exact g4.1 (by simpa [Box.live] using hq) (.inr ⟨b, hl, hc⟩)
  · intro b1 hd
    by_cases eb : b1 = b
    · subst eb; simp [updL] at hd
    · exact h.dom b1 (by simpa [updL, eb] using hd)
  · have := h.old k hk
    omega

section
variable {P : Program} {X : Blocks} {β : Map} {N : Nat → Prop} {w : World} {B : Boxes} {al : Nat} {ρ : Operand → Value} {o : Oper} {byref : FuncId → Bool} {call : Caller} {as : List AV} {res : Res}

theorem go_allocT {e : TypeId} {zs : List AV} (ho : o.op = .alloc e) (hz : zeroAVs P e = some zs) (hT : headNil zs = true) (hS : SimB X β N w (look B)) (hal : ¬ N al) (hx : VRs (All X β (look B)) β N w as (([] : List Operand).map ρ)) (hr : (evOp byref call (.allocT e zs) as B al).run = some res) :
    Does P o ρ w (Step X β N w (look B) al (updsL (look B) res.writes) res.val) := by
  rcases as with _ | ⟨a, r⟩
  rotate_left
  · simp [evOp, M.run] at hr
  simp only [evOp, M.run, Option.some.injEq] at hr
  subst hr
  obtain ⟨i, z, h1, h2, h3⟩ := zeroAVs_run hz
  obtain ⟨h4, h5⟩ := ofCells_VRs (X := All X β (look B)) (β := β) (N := N) (w := w) _ _ h3
  obtain ⟨zs', rfl⟩ : ∃ zs', zs = .d .nilp :: zs' := by
    unfold headNil at hT
    split at hT
    · exact ⟨_, rfl⟩
    · cases hT
  obtain ⟨v0, vs, e0, hv0, hvs⟩ := VRs.cons h4
  have hv0' : v0 = .pointer none := VR.d_iff.1 hv0
  subst hv0'
  refine ⟨.pointer (some ⟨w.heap.size, 0, none⟩), w.alloc (.cells z.cells e), .inl (by simp [execOp, ho, Instr.alloc, newVar, newRow, zeroValue, typeInfo, h1, h2]), ?_⟩
  refine Step.new hS hal (by simp) fun β' N' mv e1 e2 => ⟨⟨w.heap.size, z.cells, e, e1, heap_new _ _, ?_, ?_⟩, VR.ptr_iff.2 ⟨e2, _, e1, rfl⟩⟩
  · have := VRs.len _ _ h4
    simpa using this.symm
  · intro j a v ha hv'
    have hv2 : z.cells.toList[j]? = some v := by simpa using hv'
    refine ⟨?_, h5 v (List.mem_of_getElem? hv2)⟩
    cases j with
    | zero =>
      simp only [List.drop_succ_cons, List.drop_zero, List.getElem?_cons_zero, Option.some.injEq] at ha
      subst ha
      rw [e0] at hv2
      simp only [List.getElem?_cons_zero, Option.some.injEq] at hv2
      subst hv2
      exact VR.snil_iff.2 ⟨e2, rfl, _, z.cells, (0, 0), e1, heap_new _ _⟩
    | succ j =>
      refine (VRs.get _ _ h4 (j + 1) a v ?_ hv2).move mv
      simpa using ha

theorem run_equalIn_nili (d : Nat) (t : TypeId) {ms : Array (String × TypeId)} (h : P.underlying t = some (.interface ms)) (v : Value) (hv : v = .nilIface ∨ ∃ T u, v = .iface T u) :
    (Op.equalIn (d + 1) t v .nilIface).run P w = .ok (match v with | .nilIface => true | _ => false) w := by
  rcases hv with rfl | ⟨T, u, rfl⟩ <;> simp [Op.equalIn, run_underlying h]

theorem run_equal_nili (t : TypeId) {ms : Array (String × TypeId)} (h : P.underlying t = some (.interface ms)) (v : Value) (hv : v = .nilIface ∨ ∃ T u, v = .iface T u) :
    (Op.equal t v .nilIface).run P w = .ok (match v with | .nilIface => true | _ => false) w := run_equalIn_nili 9999 t h v hv

theorem go_isnili {bop : BinOp} {ng : Bool} {t yt : TypeId} {ms : Array (String × TypeId)} {x y : Operand} (ho : o.op = .binOp bop t x y yt) (hop : isNeg bop = some ng) (hy : isConstNili y = true) (hu : P.underlying t = some (.interface ms)) (hρ : ∀ u, ρ (.const u) = u) (hS : SimB X β N w (look B)) (hal : ¬ N al)
    (hx : VRs (All X β (look B)) β N w as ([x].map ρ)) (hr : (evOp byref call (.isnili ng) as B al).run = some res) :
    Does P o ρ w (Step X β N w (look B) al (updsL (look B) res.writes) res.val) := by
  rcases as with _ | ⟨a, _ | ⟨b, r⟩⟩
  · simp [evOp, M.run] at hr
  rotate_left
  · simp [evOp, M.run] at hr
  obtain ⟨v, e1, hv⟩ := VRs.one hx
  simp at e1
  obtain rfl : y = .const .nilIface := by
    unfold isConstNili at hy
    split at hy
    · rfl
    · cases hy
  have key : ∀ r : Bool, (Op.equal t v .nilIface).run P w = .ok r w → (v = .nilIface ∨ ∃ T u, v = .iface T u) → (evOp byref call (.isnili ng) [a] B al).run = some res → res = ⟨.d (.bool (cond ng (!r) r)), [], []⟩ →
      Does P o ρ w (Step X β N w (look B) al (updsL (look B) res.writes) res.val) := by
    rintro r he hv' _ rfl
    refine does_eq ho hop hS ?_ ?_
    · rw [hρ, e1]
      rcases hv' with rfl | ⟨T, u, rfl⟩ <;> cases bop <;> simp [isNeg] at hop <;> cases x <;> rfl
    · rw [hρ, e1]
      rcases hv' with rfl | ⟨T, u, rfl⟩ <;> cases bop <;> simp [isNeg] at hop <;> subst hop <;> simp [binOp, Sem.run_bind, he]
  have hr' := hr
  simp only [evOp] at hr
  split at hr
  · simp only [M.run, Option.some.injEq] at hr
    have : v = .nilIface := VR.d_iff.1 hv
    subst this
    exact key true (run_equal_nili t hu _ (.inl rfl)) (.inl rfl) hr' (by rw [← hr]; cases ng <;> rfl)
  · simp only [M.run, Option.some.injEq] at hr
    obtain ⟨u, rfl⟩ := VR.ifc_iff.1 hv
    exact key false (run_equal_nili t hu _ (.inr ⟨_, _, rfl⟩)) (.inr ⟨_, _, rfl⟩) hr' (by rw [← hr]; cases ng <;> rfl)
  · simp [M.run] at hr

theorem go_sdata {c : Call} (ho : o.op = .call c) (hc : c.callee = .builtin .unsafeSliceData) (hS : SimB X β N w (look B)) (hal : ¬ N al) (hx : VRs (All X β (look B)) β N w as (c.args.toList.map ρ)) (hr : (evOp byref call .sdata as B al).run = some res) :
    Does P o ρ w (Step X β N w (look B) al (updsL (look B) res.writes) res.val) := by
  rcases as with _ | ⟨a, _ | ⟨b, r⟩⟩
  · simp [evOp, M.run] at hr
  rotate_left
  · simp [evOp, M.run] at hr
  obtain ⟨v, e1, hv⟩ := VRs.one hx
  have hargs : c.args.map ρ = #[v] := by
    apply Array.ext'; simpa using e1
  have exec : ∀ u, (Builtin.unsafeSliceData_ c.argTypes o.type #[v]).run P w = .ok u w → (execOp ρ o).run P w = .ok (.value u) w := by
    intro u h
    simp [execOp, ho, resolve, hc, hargs, invoke, builtin, h]
  simp only [evOp] at hr
  split at hr
  · simp only [M.run, Option.some.injEq] at hr
    subst hr
    have : v = .slice none 0 0 := VR.d_iff.1 hv
    subst this
    exact ⟨_, w, .inl (exec _ (Lib.run_unsafeSliceData_nil _ _ _ _ _)), Step.same hS (VR.d_iff.2 rfl)⟩
  · rename_i bb off len cap
    obtain ⟨h1, h2⟩ := (M.run_chk _ _ _).1 hr
    simp only [M.run, Option.some.injEq] at h2
    subst h2
    obtain ⟨hN, _, h⟩ := VR.sr_iff.1 hv
    rcases h with ⟨_, _, _, rfl, _⟩ | ⟨cc, k, hβ, rfl, hk, _⟩
    · simp at h1
    · have hne : len ≠ 0 := by simpa using h1
      exact ⟨_, w, .inl (exec _ (Lib.run_unsafeSliceData_row _ _ _ _ _ _ (by omega))), Step.same hS (VR.eptr_iff.2 ⟨hN, cc, hβ, rfl⟩)⟩
  · simp [M.run] at hr

theorem u8_of {n : Int} (h0 : 0 ≤ n) (h1 : n < 256) : ((UInt8.ofNat n.toNat).toNat : Int) = n := by
  have : n.toNat < 256 := by omega
  simp [UInt8.toNat_ofNat', Nat.mod_eq_of_lt this]
  omega

theorem go_ustr [TagOK P] {c : Call} {t u : TypeId} (ho : o.op = .call c) (hc : c.callee = .builtin .unsafeString) (ht : c.argTypes.toList = [t, u]) (hu : ustrT P t u = true) (hS : SimB X β N w (look B)) (hal : ¬ N al) (hx : VRs (All X β (look B)) β N w as (c.args.toList.map ρ)) (hr : (evOp byref call .ustr as B al).run = some res) :
    Does P o ρ w (Step X β N w (look B) al (updsL (look B) res.writes) res.val) := by
  have ht' : c.argTypes = #[t, u] := by rw [← Array.toArray_toList (xs := c.argTypes), ht]
  obtain ⟨e, hp, he, hcell⟩ : ∃ e, P.underlying t = some (.pointer e) ∧ elemTy P e = some (.int .u8) ∧ P.cellsOf e = 1 := by
    unfold ustrT at hu
    split at hu
    · rename_i e hp
      simp only [Bool.and_eq_true, decide_eq_true_eq] at hu
      exact ⟨e, hp, hu.1.1, hu.1.2⟩
    · cases hu
  rcases as with _ | ⟨p, _ | ⟨q, _ | ⟨q2, r⟩⟩⟩
  · simp [evOp, M.run] at hr
  · simp [evOp, M.run] at hr
  rotate_left
  · simp [evOp, M.run] at hr
  have hq : ∃ k n, q = .d (.int k n) := by
    cases q with
    | d x => cases x <;> first | exact ⟨_, _, rfl⟩ | (simp [evOp, M.run] at hr)
    | _ => simp [evOp, M.run] at hr
  obtain ⟨k, n, rfl⟩ := hq
  simp only [evOp] at hr
  obtain ⟨v0, v1, e1, hv0, hv1⟩ := VRs.two hx
  have hargs : c.args.map ρ = #[v0, v1] := by
    apply Array.ext'; simpa using e1
  have hv1' : v1 = .int k n := VR.d_iff.1 hv1
  subst hv1'
  obtain ⟨hk, hr2⟩ := (M.run_ifb _ _ _).1 hr
  clear hr
  have hr := hr2
  clear hr2
  have hk' : k = .i64 := of_decide_eq_true hk
  subst hk'
  have exec : ∀ r w', (Builtin.unsafeString_ #[t, u] o.type #[v0, .int .i64 n]).run P w = .ok r w' → (execOp ρ o).run P w = .ok (.value r) w' := by
    intro r w' h
    simp [execOp, ho, resolve, hc, hargs, ht', invoke, builtin, h]
  split at hr
  · obtain ⟨h0, h2⟩ := (M.run_chk _ _ _).1 hr
    simp only [M.run, Option.some.injEq] at h2
    subst h2
    have hn : n = 0 := of_decide_eq_true h0
    subst hn
    have : v0 = .pointer none := VR.d_iff.1 hv0
    subst this
    exact ⟨_, w, .inl (exec _ _ (Lib.run_unsafeString_none _ _ _ _ _)), Step.same hS (VR.d_iff.2 ⟨_, rfl, rfl⟩)⟩
  · rename_i b
    have hL : ∃ l, look B b = .arr (.int .u8) l true := by
      cases hL : look B b with
      | dead => simp [hL, M.run] at hr
      | cells l => simp [hL, M.run] at hr
      | arr t l m =>
        cases t with
        | int k => cases k <;> cases m <;> first | exact ⟨_, rfl⟩ | (simp [hL, M.run] at hr)
        | _ => simp [hL, M.run] at hr
    obtain ⟨l, hL⟩ := hL
    · rw [hL] at hr
      simp only at hr
      obtain ⟨h0, h2⟩ := (M.run_chk _ _ _).1 hr
      simp only [M.run, Option.some.injEq] at h2
      subst h2
      simp only [Bool.and_eq_true, decide_eq_true_eq, Bool.not_eq_true', List.all_eq_true] at h0
      obtain ⟨⟨⟨hn, hne⟩, h63⟩, hall⟩ := h0
      obtain ⟨_, cc, hβ, hv⟩ := VR.eptr_iff.1 hv0
      simp only [Nat.zero_mul, Nat.zero_add] at hv
      subst hv
      have hb := hS.box b
      rw [hL] at hb
      obtain ⟨_, hb⟩ := hb
      rcases hb with ⟨g1, _⟩ | ⟨c', arr, e', g1, g2, g3, g4, g5⟩
      · rw [hβ] at g1; cases g1
      rw [hβ] at g1; cases g1
      have hee : e' = e := TagOK.byte (P := P) e e' he g4.2
      subst hee
      have hlen : ((show List Int from l).map fun n => UInt8.ofNat n.toNat).length = l.length := by simp
      have hrun := Lib.run_unsafeString_row (P := P) w t u o.type e' hp hcell cc arr.size (by simp [World.shape?, g2]) ((show List Int from l).map fun n => UInt8.ofNat n.toNat) (by
          intro h0
          have := congrArg List.length h0
          rw [hlen] at this
          cases l with
          | nil => simp at hne
          | cons a l => simp at this) (by rw [hlen]; simpa [Ty.size] using g3) (by rw [hlen]; exact h63) (by
          intro j x hj
          have hjl : j < l.length := by
            have := (List.getElem?_eq_some_iff.1 hj).1
            rwa [hlen] at this
          have hRD := g5 j hjl
          have hx : x = UInt8.ofNat (show Int from l[j]).toNat := by
            rw [List.getElem?_map] at hj
            have : (show List Int from l)[j]? = some l[j] := List.getElem?_eq_getElem hjl
            rw [this] at hj
            simpa using hj.symm
          have hin := hall l[j] (List.getElem_mem hjl)
          generalize hg : (fun q => arr[j * (Ty.int IntKind.u8).size + q]?) = g at hRD
          cases hRD with
          | int h =>
            rw [← hg] at h
            have h' : arr[j]? = some (.int .u8 l[j]) := by simpa [Ty.size] using h
            have hc2 : w.cell? ((⟨cc, 0, none⟩ : Addr).add j) = arr[j]? := by
              have := cell_of_arr (w := w) (j := j) g2
              cases j with
              | zero => exact this
              | succ j => simpa [Addr.add] using this
            rw [hc2, h', hx, u8_of hin.1 hin.2])
      rw [hlen, ← hn] at hrun
      have hfr : (w.freeze ⟨cc, 0, none⟩ l.length).heap[cc]? = some (.cells arr e' (0, l.length)) := by
        have hne0 : l.length ≠ 0 := by
          cases l with
          | nil => simp at hne
          | cons a l => simp
        simp [World.freeze, hne0, Array.getElem?_modify, g2]
      have hoth : ∀ k, k ≠ cc → (w.freeze ⟨cc, 0, none⟩ l.length).heap[k]? = w.heap[k]? := by
        intro k hk
        unfold World.freeze
        split
        · rfl
        · simp [Array.getElem?_modify, Ne.symm hk]
      have hother : (w.freeze ⟨cc, 0, none⟩ l.length).heap.size = w.heap.size ∧ (w.freeze ⟨cc, 0, none⟩ l.length).os = w.os ∧ (w.freeze ⟨cc, 0, none⟩ l.length).tape = w.tape ∧ (w.freeze ⟨cc, 0, none⟩ l.length).output = w.output := by
        unfold World.freeze
        split <;> simp
      obtain ⟨r1, r2⟩ := hS.retire (by rw [hL]; rfl) hβ g2 hfr hother.1 hother.2.1 hother.2.2.1 hother.2.2.2 hoth
      refine ⟨_, _, .inl (exec _ _ hrun), β, N, ?_, ?_, ?_, fun b hb => ⟨hb, rfl⟩, fun b hb => .inl hb⟩
      · exact r1
      · exact VR.d_iff.2 ⟨_, rfl, rfl⟩
      · exact r2
  · simp [M.run] at hr


theorem go_capv {c : Call} {t e : TypeId} (ho : o.op = .call c) (hc : c.callee = .builtin .cap) (ht : c.argTypes[0]? = some t) (hu : P.underlying t = some (.slice e)) (hS : SimB X β N w (look B)) (hal : ¬ N al) (hx : VRs (All X β (look B)) β N w as (c.args.toList.map ρ)) (hr : (evOp byref call .capv as B al).run = some res) :
    Does P o ρ w (Step X β N w (look B) al (updsL (look B) res.writes) res.val) := by
  rcases as with _ | ⟨a, _ | ⟨b, r⟩⟩
  · simp [evOp, M.run] at hr
  rotate_left
  · simp [evOp, M.run] at hr
  obtain ⟨v, e1, hv⟩ := VRs.one hx
  have hargs : c.args.map ρ = #[v] := by
    apply Array.ext'; simpa using e1
  have exec : ∀ q n k, v = .slice q n k → (execOp ρ o).run P w = .ok (.value (.int .i64 k)) w := by
    rintro q n k rfl
    simp [execOp, ho, resolve, hc, hargs, invoke, builtin, Builtin.cap_, goInt, ht, run_underlying hu]
  simp only [evOp] at hr
  split at hr
  · simp only [M.run, Option.some.injEq] at hr
    subst hr
    rename_i b off len sz k
    obtain ⟨hN, hs, h⟩ := VR.sr_iff.1 hv
    rcases h with ⟨_, _, _, _, h⟩ | ⟨cc, k', _, hv', _, hkk, _⟩
    · cases h
    · have := hkk k rfl
      subst this
      exact ⟨_, w, .inl (exec _ _ _ hv'), Step.same hS (VR.d_iff.2 rfl)⟩
  · simp only [M.run, Option.some.injEq] at hr
    subst hr
    have : v = .slice none 0 0 := VR.d_iff.1 hv
    exact ⟨_, w, .inl (exec _ _ _ this), Step.same hS (VR.d_iff.2 rfl)⟩
  · simp [M.run] at hr

theorem find_overlaps {fn : Func} (ho : fn.origin = "slices.overlaps") (h1 : Extern.allGenericRows.lookup fn.name = none) (h2 : Extern.allTypedRows.lookup fn.name = none) (h3 : Extern.allRows.lookup fn.name = none) :
    Extern.find fn = some (Extern.SlicesOverlaps.overlaps fn.params fn.resultTypes) := by
  unfold Extern.find
  simp only [h1, h2, h3, ho]
  have e1 : Extern.allGenericRows.lookup "slices.overlaps" = none := by kernel_rfl
  have e2 : Extern.allTypedRows.lookup "slices.overlaps" = some Extern.SlicesOverlaps.overlaps := by kernel_rfl
  rw [e1, e2]
  rfl

theorem liveArr_spec {B : Boxes} {b : Nat} (h : (match look B b with | .arr _ _ true => true | _ => false) = true) : ∃ t l, look B b = .arr t l true := by
  cases hL : look B b with
  | dead => rw [hL] at h; cases h
  | cells l => rw [hL] at h; cases h
  | arr t l m =>
    rw [hL] at h
    cases m with
    | false => cases h
    | true => exact ⟨t, l, rfl⟩

theorem go_ovl {c : Call} {f : FuncId} (ho : o.op = .call c) (hc : c.callee = .value (.func f)) (hρ : ρ (.func f) = .func (.func f) #[] #[]) (hg : ovlF P f = true) (hS : SimB X β N w (look B))
    (hx : VRs (All X β (look B)) β N w as (c.args.toList.map ρ)) (hr : (evOp byref call .ovl as B al).run = some res) :
    Does P o ρ w (Step X β N w (look B) al (updsL (look B) res.writes) res.val) := by
  rcases as with _ | ⟨p, _ | ⟨q, _ | ⟨q2, r⟩⟩⟩
  · simp [evOp, M.run] at hr
  · simp [evOp, M.run] at hr
  rotate_left
  · simp [evOp, M.run] at hr
  obtain ⟨v0, v1, e1, hv0, hv1⟩ := VRs.two hx
  have hargs : c.args.map ρ = #[v0, v1] := by
    apply Array.ext'; simpa using e1
  simp only [evOp] at hr
  split at hr
  rotate_left
  · simp [M.run] at hr
  rename_i b off la sz cap b' off' lb sz' cap'
  obtain ⟨h1, hr1⟩ := (M.run_ifb _ _ _).1 hr
  obtain ⟨h2, hr2⟩ := (M.run_chk _ _ _).1 hr1
  simp only [M.run, Option.some.injEq] at hr2
  subst hr2
  simp only [Bool.and_eq_true, Bool.not_eq_true', beq_eq_false_iff_ne, decide_eq_false_iff_not] at h1 h2
  obtain ⟨⟨hne, hl1⟩, hl2⟩ := h1
  obtain ⟨t1, l1, hL1⟩ := liveArr_spec hl1
  obtain ⟨t2, l2, hL2⟩ := liveArr_spec hl2
  obtain ⟨hN0, hs0, h0⟩ := VR.sr_iff.1 hv0
  obtain ⟨hN1, hs1, h1⟩ := VR.sr_iff.1 hv1
  have hb1 := hS.box b
  rw [hL1] at hb1
  obtain ⟨_, hb1⟩ := hb1
  have hb2 := hS.box b'
  rw [hL2] at hb2
  obtain ⟨_, hb2⟩ := hb2
  rcases h0 with ⟨_, _, _, h0, _⟩ | ⟨ca, ka, hβa, rfl, hka, _, arr1, e1', fz1, ha1, hsz1⟩
  · exact absurd h0 h2.1
  rcases h1 with ⟨_, _, _, h1, _⟩ | ⟨cb, kb, hβb, rfl, hkb, _, arr2, e2', fz2, ha2, hsz2⟩
  · exact absurd h1 h2.2
  rcases hb1 with ⟨g, _⟩ | ⟨c1, a1, ee1, g1, g2, _⟩
  · rw [hβa] at g; cases g
  rw [hβa] at g1; cases g1
  rcases hb2 with ⟨g, _⟩ | ⟨c2, a2, ee2, k1, k2, _⟩
  · rw [hβb] at g; cases g
  rw [hβb] at k1; cases k1
  have hcc : ca ≠ cb := fun e => hne (hS.inj b b' ca (by rw [hL1]; rfl) (by rw [hL2]; rfl) hβa (e ▸ hβb))
  unfold ovlF at hg
  split at hg
  rotate_left
  · cases hg
  rename_i fn hfn
  simp only [Bool.and_eq_true, Bool.not_eq_true', decide_eq_true_eq, Option.isNone_iff_eq_none] at hg
  obtain ⟨⟨⟨⟨⟨⟨⟨hbody, horig⟩, hname⟩, hnext⟩, n1⟩, n2⟩, n3⟩, hp⟩ := hg
  split at hp
  rotate_left
  · cases hp
  rename_i tt uu hpar
  simp only [Bool.and_eq_true, beq_iff_eq] at hp
  obtain ⟨rfl, hp⟩ := hp
  split at hp
  rotate_left
  · cases hp
  rename_i e hu
  split at hp
  rotate_left
  · cases hp
  rename_i size hsize
  obtain ⟨inf, hi1, hi2⟩ := sizeT_info hsize
  have hpa : fn.params = #[tt, tt] := by rw [← Array.toArray_toList (xs := fn.params), hpar]
  have hz : ∀ w, (Go.sizeOf e).run P w = .ok size w := fun w => by simp [sizeOf, typeInfo, hi1, hi2]
  have hka0 : arr2.size ≠ 0 := by
    have : 0 < (off' + kb) * sz' := Nat.mul_pos (by omega) hs1
    omega
  have hap := Lib.run_overlaps_apart (P := P) w tt (fn.resultTypes.getD 0 0) e hu size hz ⟨ca, off * sz, none⟩ ⟨cb, off' * sz', none⟩ la ka lb kb hcc e1' e2' arr1.size arr2.size (by simp [World.shape?, ha1]) (by simp [World.shape?, ha2]) hka0
    (by rw [g2] at ha1; cases ha1; simp [World.frozen?, g2]) (by rw [g2] at ha1; cases ha1; simp [World.frozen?, g2])
  have hfind := find_overlaps horig n1 n2 n3
  have hcall := run_callFunc_extern hfn hname (by simp [hbody]) hnext hfind (c.args.map ρ) w
  have hsame : (Extern.SlicesOverlaps.overlaps fn.params fn.resultTypes (c.args.map ρ)).run P w = .ok (.bool false) w := by
    rw [hargs, hpa]
    exact hap
  rw [hsame] at hcall
  refine ⟨.bool false, w, .inl ?_, Step.same hS (VR.d_iff.2 rfl)⟩
  simp only [execOp, ho, resolve, hc, hρ, Deferred.ofValue, invoke, Sem.run_bind]
  simpa using hcall

end
end Go.Ev
