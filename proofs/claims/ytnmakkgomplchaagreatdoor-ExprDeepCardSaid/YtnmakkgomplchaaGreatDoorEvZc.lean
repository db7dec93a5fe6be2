/- Plain functions; closed laws; slices.Clone. No condition. -/
import Derived.Test.YtnmakkgomplchaaGreatDoorEvZb
import Derived.Below
namespace Go.Ev
set_option linter.unusedVariables false
set_option linter.unusedSimpArgs false
set_option linter.unusedSectionVars false
variable [Ctx]

section
variable {P : Program} [TagOK P]

/-- A function over plain data. -/
def PlainOK (P : Program) (f : FuncId) (g : List D → M D) : Prop := ∀ (ds : List D) (r : D), (g ds).run = some r →
  (∃ fn, P.funcs[f]? = some fn ∧ fn.body.isNone = false ∧ (fn.name == "runtime.NumGoroutine") = false) ∧
  ∀ (X : Blocks) (w : World) (vs : List Value), (∀ c, X c → c < w.heap.size) → (Ctx.inv w ∧ ∀ c, Ctx.tab c → c < w.heap.size) → VRs X (fun _ => none) (fun _ => False) w (ds.map .d) vs →
    Calls P f vs.toArray w fun e w' => ∃ v, e = .returned v ∧ VRd X w' r v ∧ Fr (fun _ => False) w (fun _ => False) w'

/-- A function over plain data that hands back whatever names no box. -/
def PlainV (P : Program) (f : FuncId) (g : List D → M AV) : Prop := ∀ (ds : List D) (r : AV), (g ds).run = some r →
  (∃ fn, P.funcs[f]? = some fn ∧ fn.body.isNone = false ∧ (fn.name == "runtime.NumGoroutine") = false) ∧
  ∀ (X : Blocks) (w : World) (vs : List Value), (∀ c, X c → c < w.heap.size) → (Ctx.inv w ∧ ∀ c, Ctx.tab c → c < w.heap.size) → VRs X (fun _ => none) (fun _ => False) w (ds.map .d) vs →
    Calls P f vs.toArray w fun e w' => ∃ v, e = .returned v ∧ VR X (fun _ => none) (fun _ => False) w' r v ∧ Fr (fun _ => False) w (fun _ => False) w'

def plainV (g : List D → M AV) : List AV → Boxes → M (AV × Boxes) := fun as B => (optM (asDs as)).bind fun ds => (g ds).bind fun r => .ret (r, B)

def plainS (g : List D → M D) : List AV → Boxes → M (AV × Boxes) := fun as B => (optM (asDs as)).bind fun ds => (g ds).bind fun r => .ret (.d r, B)

theorem VRs.plain {X : Blocks} {β β' : Map} {N N' : Nat → Prop} {w : World} : ∀ (ds : List D) (vs : List Value), VRs X β N w (ds.map .d) vs → VRs X β' N' w (ds.map .d) vs
  | [], [], h => by unfold VRs; trivial
  | [], _ :: _, h => by simp only [List.map_nil] at h; unfold VRs at h; exact h.elim
  | _ :: _, [], h => by simp only [List.map_cons] at h; unfold VRs at h; exact h.elim
  | d :: ds, v :: vs, h => by
    simp only [List.map_cons] at h ⊢
    unfold VRs at h ⊢
    exact ⟨VR.d_iff.2 (VR.d_iff.1 h.1), VRs.plain ds vs h.2⟩

theorem plainV_at {f : FuncId} {g : List D → M AV} (h : PlainV P f g) : CallAt P f (plainV g) := by
  intro as B r B' hr
  unfold plainV at hr
  obtain ⟨ds, h1, h2⟩ := run_bind_some hr
  obtain ⟨r0, h3, h4⟩ := run_bind_some h2
  simp only [M.run, Option.some.injEq, Prod.mk.injEq] at h4
  obtain ⟨rfl, rfl⟩ := h4
  have := asDs_spec _ _ (optM_run h1)
  subst this
  obtain ⟨g1, g2⟩ := h ds r0 h3
  refine ⟨g1, Nat.le_refl _, fun X β w vs hS hv => ?_⟩
  have ownLt : ∀ c, Own β (look B) c → c < w.heap.size := by
    rintro c ⟨b, h1, h2⟩
    exact hS.lt (fun e => by rw [e] at h1; simp [Box.live] at h1) h2
  refine (g2 (All X β (look B)) w vs (fun c hc => hc.elim (hS.old c) (ownLt c)) ⟨hS.tabs.1, fun c hc => (hS.tabs.2 c hc).1⟩ (VRs.plain ds vs hv)).mono ?_
  rintro e w' ⟨v, rfl, k1, k2⟩
  have hb : ∀ c, c < w.heap.size → w'.heap[c]? = w.heap[c]? := fun c hc => (k2.blk c hc (fun h => h)).2
  have hF : Fr (Own β (look B)) w (Own β (look B)) w' := ⟨k2.os, k2.tape, k2.output, k2.size, fun c hc hn => ⟨hn, hb c hc⟩, k2.shape⟩
  have mv : Mv (All X β (look B)) β (· < B.length) w (All X β (look B)) β (· < B.length) w' := ⟨k2.size, fun c hc hn => ⟨hn, hb c hc⟩, k2.shape, fun b hb => hb, fun b hb => rfl⟩
  have mv2 : Mv (All X β (look B)) (fun _ => none) (fun _ => False) w' (All X β (look B)) β (· < B.length) w' := ⟨Nat.le_refl _, fun c _ hn => ⟨hn, rfl⟩, fun c arr e fz h => ⟨arr, fz, h, rfl⟩, fun b hb => hb.elim, fun b hb => hb.elim⟩
  refine ⟨v, β, rfl, ⟨hS.apart, hS.inj, fun b => ?_, hS.dom, fun c hc => Nat.lt_of_lt_of_le (hS.old c hc) k2.size, hS.tabs' hF⟩, k1.move mv2, hF, fun b _ => rfl⟩
  by_cases hd : look B b = .dead
  · rw [hd]; trivial
  · exact (hS.box b).move mv (hS.dom b hd) fun c hc _ => hb c (hS.lt hd hc)

theorem plainS_at {f : FuncId} {g : List D → M D} (h : PlainOK P f g) : CallAt P f (plainS g) := by
  have hV : PlainV P f (fun ds => (g ds).bind fun r => .ret (.d r)) := by
    intro ds r hr
    obtain ⟨r0, h3, h4⟩ := run_bind_some hr
    simp only [M.run, Option.some.injEq] at h4
    subst h4
    obtain ⟨g1, g2⟩ := h ds r0 h3
    exact ⟨g1, fun X w vs hX hI hv => (g2 X w vs hX hI hv).mono fun e w' ⟨v, h1, h2, h3⟩ => ⟨v, h1, VR.d_iff.2 h2, h3⟩⟩
  intro as B r B' hr
  refine plainV_at hV as B r B' ?_
  unfold plainS at hr
  obtain ⟨ds, h1, h2⟩ := run_bind_some hr
  obtain ⟨r0, h3, h4⟩ := run_bind_some h2
  unfold plainV
  exact run_bind_mk (m := .fail) (f := fun _ => .fail) h1 (run_bind_mk (m := .fail) (f := fun _ => .fail) (run_bind_mk (m := .fail) (f := fun _ => .fail) h3 rfl) h4)

theorem none_ok (P : Program) : CallOK P (fun _ _ _ => .fail) := fun f as B r B' hr => by simp [M.run] at hr

theorem SimB.empty {X : Blocks} {β : Map} {N : Nat → Prop} {w : World} (hX : ∀ c, X c → c < w.heap.size) (hI : Ctx.inv w ∧ ∀ c, Ctx.tab c → c < w.heap.size) : SimB X β N w (look []) := by
  have e : ∀ b, look [] b = .dead := fun b => rfl
  refine ⟨fun c h => ?_, fun b b' c h => ?_, fun b => ?_, fun b h => absurd (e b) h, hX, hI.1, fun c hc => ⟨hI.2 c hc, fun ho => ?_⟩⟩
  · obtain ⟨b, h1, _⟩ := h
    rw [e] at h1; simp [Box.live] at h1
  · rw [e] at h; simp [Box.live] at h
  · rw [e]; trivial
  · obtain ⟨b, h1, _⟩ := ho
    rw [e] at h1; simp [Box.live] at h1

theorem own_empty {β : Map} {c : Nat} (h : Own β (look []) c) : False := by
  obtain ⟨b, h1, _⟩ := h
  simp [look, Box.live] at h1

/-- A closed law: it says true, and leaves all as it was. -/
theorem closed_law (hm : P.follows .mixedOrders = true) {kinds : FuncId → Bool × Bool} {S : FuncId → Option (List AV → Boxes → M (AV × Boxes))} (hS : ∀ f s, S f = some s → CallAt P f s) {n : Nat} {f : FuncId} {b : Bool}
    (h : (evCall (fnsOf P kinds) S n f [] []).run = some (.d (.bool b), [])) (W : World) (hI : Ctx.inv W ∧ ∀ c, Ctx.tab c → c < W.heap.size) : Calls P f #[] W fun e w' => e = .returned (.bool b) ∧ RowKit.Below W.heap.size W w' := by
  obtain ⟨_, _, h3⟩ := evCall_at hm kinds S hS n f [] [] _ _ h
  refine (h3 (fun _ => False) (fun _ => none) W [] (SimB.empty (fun c h => h.elim) hI) (by unfold VRs; trivial)).mono ?_
  rintro e w' ⟨v, β', rfl, _, k2, k3, _⟩
  have : v = .bool b := VR.d_iff.1 k2
  subst this
  exact ⟨rfl, k3.os, k3.tape, k3.output, k3.size, fun k hk => (k3.blk k hk fun h => own_empty h).2⟩

/-- What slices.Clone hands back. -/
def cloneG (ty : Ty) (bytes : Nat) : List D → M D
  | [.nils] => .ret .nils
  | [.sl t l] => .ifb (decide (t = ty)) (.chk (decide (l.length * bytes ≤ 70368744177664)) (.ret (.sl t l)))
  | _ => .fail

def cloneC3 (ty : Ty) (bytes : Nat) : AC := .seq (.region [⟨some 5, none, .lit ty 0 [], []⟩, ⟨some 6, none, .mv, [.tmp 0]⟩, ⟨some 7, none, .app ty bytes, [.tmp 5, .tmp 6]⟩, ⟨some 2, none, .mv, [.tmp 7]⟩] none) .ret

def cloneEnv (x : D) (t : Bool) : Env := [.d x, .tup [], .d .nils, .d x, .d (.bool t), .tup [], .tup [], .tup []]

def outEnv3 (x : D) (y z : AV) : Env := [.d x, .tup [], y, .d x, .d (.bool false), z, .d x, y]

theorem fin_run {ty : Ty} {l : List ty.den} {env : Env} {B : Boxes} {b : Nat} {cap : Option Nat} (h : env.getD 2 .top = .sr b 0 l.length ty.size cap) (hB : look B b = .arr ty l true) : (finish 0 true [(2, none)] env B).run = some (.d (.sl ty l), []) := by
  have h1 : (resVals env B [(2, none)]).run = some [.sr b 0 l.length ty.size cap] := by simp only [resVals, resVal, h, M.bind, M.run]
  have h2 : (snapL B [.sr b 0 l.length ty.size cap]).run = some ([.d (.sl ty l)], [(b, .arr ty l false)]) := by
    simp [snapL, snap, toD, hB, M.ifb, M.chk, M.bind, M.run]
  unfold finish
  refine run_bind_mk (m := .fail) (f := fun _ => .fail) h1 ?_
  simp only [if_true]
  refine run_bind_mk (m := .fail) (f := fun _ => .fail) h2 ?_
  rfl

theorem clone_run3 {ty : Ty} (h : 0 < ty.size) {bytes : Nat} (b : FuncId → Bool) (call : Caller) (l : List ty.den) (hl : l.length * bytes ≤ 70368744177664) : ∃ env' B', (evC b call 1 0 (cloneC3 ty bytes) (cloneEnv (.sl ty l) false) []).run = some (.ret, env', B') ∧ (finish 0 true [(2, none)] env' B').run = some (.d (.sl ty l), []) := by
  have hb : Nat.blt 0 ty.size = true := by rw [Nat.blt, Nat.ble_eq]; exact h
  cases l with
  | nil =>
    refine ⟨outEnv3 (.sl ty []) (.sr 0 0 0 ty.size (some 0)) (.sr 0 0 0 ty.size (some 0)), [.arr ty [] true], ?_, fin_run (b := 0) (cap := some 0) rfl rfl⟩
    simp [cloneC3, cloneEnv, evC, evOps, evOper, evOp, hb, M.ifb, M.bind, M.run, cellsD, litRow, setD, upd, setE, rdA, content, look, M.chk, splice, outEnv3]
  | cons a l =>
    refine ⟨outEnv3 (.sl ty (a :: l)) (.sr 1 0 (a :: l).length ty.size none) (.sr 0 0 0 ty.size (some 0)), [.arr ty [] true, .arr ty (a :: l) true], ?_, fin_run (b := 1) (cap := none) rfl rfl⟩
    have hl' : (l.length + 1) * bytes ≤ 70368744177664 := by simpa using hl
    simp [cloneC3, cloneEnv, evC, evOps, evOper, evOp, hb, M.ifb, M.bind, M.run, cellsD, litRow, setD, upd, setE, rdA, content, look, M.chk, splice, outEnv3, hl']

/-- slices.Clone, by the shape of its body. -/
theorem clone_plain (hm : P.follows .mixedOrders = true) {f : FuncId} {fn : Func} {T T2 e : TypeId} {ty : Ty} {bytes i0 i1 i2 l3 : Nat} {o0 o1 o2 o3 : Oper} {c3 : Code} (hf : P.funcs[f]? = some fn)
    (hbody : fn.body = some (.seq (.region i0 #[o0] false) (.seq (.seq (.region i1 #[o1, o2] false) (.cond (.tmp 4) (.seq (.region i2 #[o3] false) .ret) .skip)) c3))) (hres : fn.results = #[.tmp 2]) (hn : fn.ntmps = 8) (hname : (fn.name == "runtime.NumGoroutine") = false)
    (h0 : o0.op = .assign (.const (.slice none 0 0)) ∧ o0.dst = some 2 ∧ o0.guard = none) (h3 : o3.op = .assign (.const (.slice none 0 0)) ∧ o3.dst = some 2 ∧ o3.guard = none) (h1 : o1.op = .move (.tmp 0) ∧ o1.dst = some 3 ∧ o1.guard = none) (h2 : o2.op = .binOp .eql T (.tmp 3) (.const (.slice none 0 0)) T2 ∧ o2.dst = some 4 ∧ o2.guard = none)
    (hT : P.underlying T = some (.slice e)) (hty : 0 < ty.size) (hc3 : compC P 4 c3 0 [] = some (cloneC3 ty bytes, l3)) : PlainOK P f (cloneG ty bytes) := by
  intro ds r hr
  refine ⟨⟨fn, hf, by simp [hbody], hname⟩, fun X w vs hX hI hv => ?_⟩
  -- one slice
  obtain ⟨x, l, v, rfl, rfl, rfl, hvx, hx, hlen⟩ : ∃ (x : D) (l : List ty.den) (v : Value), ds = [x] ∧ vs = [v] ∧ x = r ∧ VRd X w x v ∧ ((v = .slice none 0 0 ∧ (x = .nils ∨ x = .sl ty [])) ∨ (∃ a n c, v = .slice (some a) n c ∧ x = .sl ty l)) ∧ l.length * bytes ≤ 70368744177664 := by
    unfold cloneG at hr
    split at hr
    · simp only [M.run, Option.some.injEq] at hr
      obtain ⟨v, rfl, h⟩ := VRs.one hv
      have h := VR.d_iff.1 h
      exact ⟨_, [], v, rfl, rfl, hr, h, .inl ⟨h, .inl rfl⟩, by simp⟩
    · rename_i t l
      obtain ⟨h1, h2⟩ := (M.run_ifb _ _ _).1 hr
      obtain ⟨h3, h4⟩ := (M.run_chk _ _ _).1 h2
      have := of_decide_eq_true h1
      subst this
      simp only [M.run, Option.some.injEq] at h4
      obtain ⟨v, rfl, h⟩ := VRs.one hv
      have h := VR.d_iff.1 h
      have hq : RD X w (.sl t) l (fun _ => some v) := h
      obtain ⟨v', e', hh⟩ := RD.slice hq
      simp only [Option.some.injEq] at e'
      subst e'
      refine ⟨_, l, v, rfl, rfl, h4, h, ?_, of_decide_eq_true h3⟩
      rcases hh with ⟨q, qc, rfl, hq0, rfl⟩ | ⟨c, off, cap, rfl, _⟩
      · cases q with
        | none => rw [hq0 rfl]; exact .inl ⟨rfl, .inr rfl⟩
        | some a => exact .inr ⟨_, _, _, rfl, rfl⟩
      · exact .inr ⟨_, _, _, rfl, rfl⟩
    · simp [M.run] at hr
  refine calls_of_wp hf hbody ?_
  refine wp_seq (wp_region_list (wpList_step fun K hK => ?_))
  rw [if_pos (by simp [Region.wanted, h0.2.2])]
  have e0 : ∀ (ρ : Operand → Value) (w : World), (∀ u, ρ (.const u) = u) → (execOp ρ o0).run P w = .ok (.value (.slice none 0 0)) w := by
    intro ρ w hρ
    simp [execOp, h0.1, hρ]
  unfold Oper.wp
  rw [e0 _ _ (fun u => rfl), Oper.upon_value]
  refine hK _ _ (wpList_nil ?_)
  refine wp_seq (wp_seq (wp_region_list (wpList_step fun K hK => ?_)))
  rw [if_pos (by simp [Region.wanted, h1.2.2])]
  have e1 : ∀ (ρ : Operand → Value) (w : World), (execOp ρ o1).run P w = .ok (.value (ρ (.tmp 0))) w := by
    intro ρ w
    simp [execOp, h1.1]
  unfold Oper.wp
  rw [e1, Oper.upon_value]
  refine hK _ _ (wpList_step fun K hK => ?_)
  rw [if_pos (by simp [Region.wanted, h2.2.2])]
  have e2 : ∀ (ρ : Operand → Value) (w : World) q n c, (∀ u, ρ (.const u) = u) → ρ (.tmp 3) = .slice q n c → (execOp ρ o2).run P w = .ok (.value (.bool q.isNone)) w := by
    intro ρ w q n c hρ hs
    have he := run_equal_slice_nil (P := P) w T e q n c hT
    have hg := run_eqGuard_int (P := P) (w := w) .eql T (.tmp 3) (.const (.slice none 0 0)) (.slice q n c) (.slice none 0 0) ⟨by simp, by simp⟩
    simp [execOp, h2.1, hρ, hs, Sem.run_bind, hg, binOp, he]
  have hv0 : ∃ q n c, v = .slice q n c ∧ (q.isNone = true → x = .nils ∨ x = .sl ty []) ∧ (q.isNone = false → x = .sl ty l) := by
    rcases hx with ⟨rfl, hx⟩ | ⟨a, n, c, rfl, rfl⟩
    · exact ⟨none, 0, 0, rfl, fun _ => hx, fun h => (nomatch h)⟩
    · exact ⟨some a, n, c, rfl, fun h => (nomatch h), fun _ => rfl⟩
  obtain ⟨q, nn, cc, rfl, hq1, hq2⟩ := hv0
  unfold Oper.wp
  rw [e2 _ _ q nn cc (fun u => rfl) (by simp [Act.eval, Act.put, h0.2.1, h1.2.1, hn]), Oper.upon_value]
  refine hK _ _ (wpList_nil ?_)
  have hA : SimA X (fun _ => none) (· < ([] : Boxes).length) w (cloneEnv x q.isNone) { tmps := #[.slice q nn cc, undef, .slice none 0 0, .slice q nn cc, .bool q.isNone, undef, undef, undef], defers := [] } [] := by
    have hu : ∀ {Y : Blocks}, VR Y (fun _ => none) (· < ([] : Boxes).length) w (.tup []) undef := VR.tup_iff.2 ⟨#[], rfl, by unfold VRs; trivial⟩
    have hall : ∀ c, All X (fun _ => none) (look []) c → X c := fun c h => h.elim id fun h => (own_empty h).elim
    have hxx : VR (All X (fun _ => none) (look [])) (fun _ => none) (· < ([] : Boxes).length) w (.d x) (.slice q nn cc) := VR.d_iff.2 (hvx.anti hall)
    refine ⟨SimB.empty hX hI, rfl, ?_⟩
    refine (VRs.slots (tmps := #[_, _, _, _, _, _, _, _]) ?_).2
    unfold cloneEnv
    refine VRs.mk _ _ rfl fun j a v ha hv => ?_
    match j with
    | 0 => simp at ha hv; subst ha; subst hv; exact hxx
    | 1 => simp at ha hv; subst ha; subst hv; exact hu
    | 2 => simp at ha hv; subst ha; subst hv; exact VR.d_iff.2 rfl
    | 3 => simp at ha hv; subst ha; subst hv; exact hxx
    | 4 => simp at ha hv; subst ha; subst hv; exact VR.d_iff.2 rfl
    | 5 => simp at ha hv; subst ha; subst hv; exact hu
    | 6 => simp at ha hv; subst ha; subst hv; exact hu
    | 7 => simp at ha hv; subst ha; subst hv; exact hu
    | j + 8 => simp at ha
  have hput : (({ tmps := [Value.slice q nn cc].toArray ++ Array.replicate (fn.ntmps - [Value.slice q nn cc].toArray.size) undef, defers := [] } : Act).put o0.dst (.slice none 0 0) |>.put o1.dst (.slice q nn cc) |>.put o2.dst (.bool q.isNone)) =
      { tmps := #[.slice q nn cc, undef, .slice none 0 0, .slice q nn cc, .bool q.isNone, undef, undef, undef], defers := [] } := by
    rw [h0.2.1, h1.2.1, h2.2.1, hn]
    rfl
  have hmv : ((({ tmps := [Value.slice q nn cc].toArray ++ Array.replicate (fn.ntmps - [Value.slice q nn cc].toArray.size) undef, defers := [] } : Act).put o0.dst (.slice none 0 0)).eval (.tmp 0)) = .slice q nn cc := by
    rw [h0.2.1, hn]
    rfl
  rw [hmv, hput]
  refine wp_cond (t := q.isNone) rfl ?_
  have hrs : resTmps P fn.results.toList = some [(2, none)] := by rw [hres]; rfl
  have post : ∀ (env' : Env) (B' : Boxes) (β' : Map) (N' : Nat → Prop) (a' : Act) (w' : World), (finish 0 true [(2, none)] env' B').run = some (.d (.sl ty l), []) → Way X 0 (fun _ => none) w [] [] β' N' env' B' a' w' →
      bodyPost P fn (fun e w' => ∃ v, e = .returned v ∧ VRd X w' (.sl ty l) v ∧ Fr (fun _ => False) w (fun _ => False) w') .ret a' w' := by
    intro env' B' β' N' a' w' hfin hw
    obtain ⟨v', β2, g1, g2, g3, g4, _⟩ := finish_sound (fn := fn) hw.sim hrs hfin
    have hF := hw.fr.trans g4
    exact ⟨hw.defers, v', g1, v', rfl, (VR.d_iff.1 g3).anti fun c hc => .inl hc, hF.os, hF.tape, hF.output, hF.size, fun c hc _ => ⟨fun h => h, (hF.blk c hc fun h => own_empty h).2⟩, hF.shape⟩
  cases hq : q.isNone with
  | true =>
    refine wp_seq (wp_region_list (wpList_step fun K hK => ?_))
    rw [if_pos (by simp [Region.wanted, h3.2.2])]
    have e3 : ∀ (ρ : Operand → Value) (w : World), (∀ u, ρ (.const u) = u) → (execOp ρ o3).run P w = .ok (.value (.slice none 0 0)) w := by
      intro ρ w hρ
      simp [execOp, h3.1, hρ]
    unfold Oper.wp
    rw [e3 _ _ (fun u => rfl), Oper.upon_value]
    refine hK _ _ (wpList_nil ?_)
    refine wp_ret ?_
    rw [h3.2.1]
    refine ⟨rfl, .slice none 0 0, ?_, .slice none 0 0, rfl, ?_, Fr.refl _ _⟩
    · rw [results_tmp hres]; rfl
    · rcases hq1 hq with rfl | rfl
      · rfl
      · exact RD.nil rfl
  | false =>
    rw [hq] at hA
    have := hq2 hq
    subst this
    obtain ⟨env', B', k1, k2⟩ := clone_run3 hty (bytes := bytes) (fun _ => false) (fun _ _ _ => .fail) l hlen
    refine wp_skip ?_
    exact evC_sound hm (none_ok P) 1 0 c3 4 0 [] _ _ hc3 hA (fun b h => h) (fun b h => absurd h (by omega)) k1 fun β' N' a' w' hw => post env' B' β' N' a' w' k2 hw

structure CloneParts where
  i0 : Nat
  i1 : Nat
  o0 : Oper
  o1 : Oper
  o2 : Oper
  i2 : Nat
  o3 : Oper
  c3 : Code

def cloneParts : Code → Option CloneParts
  | .seq (.region i0 ops0 false) (.seq (.seq (.region i1 ops1 false) (.cond (.tmp 4) (.seq (.region i2 ops2 false) .ret) .skip)) c3) => match ops0.toList, ops1.toList, ops2.toList with
    | [o0], [o1, o2], [o3] => some ⟨i0, i1, o0, o1, o2, i2, o3, c3⟩
    | _, _, _ => none
  | _ => none

theorem cloneParts_spec {c : Code} {p : CloneParts} (h : cloneParts c = some p) : c = .seq (.region p.i0 #[p.o0] false) (.seq (.seq (.region p.i1 #[p.o1, p.o2] false) (.cond (.tmp 4) (.seq (.region p.i2 #[p.o3] false) .ret) .skip)) p.c3) := by
  unfold cloneParts at h
  split at h
  · rename_i i0 ops0 i1 ops1 i2 ops2 c3
    split at h
    · rename_i o0 o1 o2 o3 e0 e1 e2
      simp only [Option.some.injEq] at h
      subst h
      have h0 : ops0 = #[o0] := Array.ext' (by simpa using e0)
      have h1 : ops1 = #[o1, o2] := Array.ext' (by simpa using e1)
      have h2 : ops2 = #[o3] := Array.ext' (by simpa using e2)
      rw [h0, h1, h2]
    · cases h
  · cases h

theorem clone_at (hm : P.follows .mixedOrders = true) {f : FuncId} {fn : Func} (T T2 e : TypeId) (ty : Ty) (bytes : Nat) (hf : P.funcs[f]? = some fn) (hsome : (fn.body.bind cloneParts).isSome = true) (hres : fn.results = #[.tmp 2]) (hn : fn.ntmps = 8) (hname : (fn.name == "runtime.NumGoroutine") = false)
    (h01 : ((fn.body.bind cloneParts).get hsome).o0.op = .assign (.const (.slice none 0 0))) (h02 : ((fn.body.bind cloneParts).get hsome).o0.dst = some 2) (h03 : ((fn.body.bind cloneParts).get hsome).o0.guard = none)
    (h11 : ((fn.body.bind cloneParts).get hsome).o1.op = .move (.tmp 0)) (h12 : ((fn.body.bind cloneParts).get hsome).o1.dst = some 3) (h13 : ((fn.body.bind cloneParts).get hsome).o1.guard = none)
    (h21 : ((fn.body.bind cloneParts).get hsome).o2.op = .binOp .eql T (.tmp 3) (.const (.slice none 0 0)) T2) (h22 : ((fn.body.bind cloneParts).get hsome).o2.dst = some 4) (h23 : ((fn.body.bind cloneParts).get hsome).o2.guard = none)
    (h31 : ((fn.body.bind cloneParts).get hsome).o3.op = .assign (.const (.slice none 0 0))) (h32 : ((fn.body.bind cloneParts).get hsome).o3.dst = some 2) (h33 : ((fn.body.bind cloneParts).get hsome).o3.guard = none)
    (hT : P.underlying T = some (.slice e)) (hty : Nat.ble 1 ty.size = true) (hc3 : (compC P 4 ((fn.body.bind cloneParts).get hsome).c3 0 []).map (·.1) = some (cloneC3 ty bytes)) : CallAt P f (plainS (cloneG ty bytes)) := by
  have hp : fn.body.bind cloneParts = some ((fn.body.bind cloneParts).get hsome) := (Option.some_get hsome).symm
  generalize (fn.body.bind cloneParts).get hsome = p at *
  cases hb : fn.body with
  | none => rw [hb] at hp; cases hp
  | some c =>
    rw [hb] at hp
    have := cloneParts_spec (c := c) hp
    obtain ⟨⟨a3, l3⟩, hc3, e3⟩ := Option.map_eq_some_iff.1 hc3
    simp only at e3
    subst e3
    exact plainS_at (clone_plain hm hf (by rw [hb, this]) hres hn hname ⟨h01, h02, h03⟩ ⟨h31, h32, h33⟩ ⟨h11, h12, h13⟩ ⟨h21, h22, h23⟩ hT (Nat.le_of_ble_eq_true hty) hc3)

end
end Go.Ev
