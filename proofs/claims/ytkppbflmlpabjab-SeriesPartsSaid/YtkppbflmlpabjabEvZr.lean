/- slices.Clone as a row of one's own. No condition. -/
import Derived.Test.YtkppbflmlpabjabEvZc
namespace Go.Ev
set_option linter.unusedVariables false
set_option linter.unusedSimpArgs false
set_option linter.unusedSectionVars false
variable [Ctx]

section
variable {P : Program} [TagOK P]

/-- slices.Clone as a row of one's own. -/
def cloneR (ty : Ty) (bytes : Nat) : List AV → Boxes → M (AV × Boxes) := fun xs B => match xs, B with
  | [.d .nils], [] => .ret (.sr 0 0 0 ty.size none, [.arr ty [] true])
  | [.d (.sl t l)], [] => .ifb (decide (t = ty)) (.chk (decide (l.length * bytes ≤ 70368744177664)) (.ret (.sr 0 0 l.length t.size none, [.arr t l true])))
  | _, _ => .fail

theorem clone_run4 {ty : Ty} (h : 0 < ty.size) {bytes : Nat} (b : FuncId → Bool) (call : Caller) (l : List ty.den) (hl : l.length * bytes ≤ 70368744177664) : ∃ env' B', (evC b call 1 0 noHd (cloneC3 ty bytes) (cloneEnv (.sl ty l) false) []).run = some (.ret, env', B') ∧ (finish 0 false [(2, none)] env' B').run = some (.sr 0 0 l.length ty.size none, [.arr ty l true]) := by
  have hb : Nat.blt 0 ty.size = true := by rw [Nat.blt, Nat.ble_eq]; exact h
  refine ⟨outEnv3 (.sl ty l) (.sr 1 0 l.length ty.size none) (.sr 0 0 0 ty.size none), [.dead, .arr ty l true], ?_, rfl⟩
  simp [cloneC3, cloneEnv, evC, evOps, evOper, evOp, hb, M.ifb, M.bind, M.run, cellsD, litRow, setD, upd, setE, rdA, content, look, M.chk, splice, outEnv3, hl, litCap]

theorem clone_row (hm : P.follows .mixedOrders = true) {f : FuncId} {fn : Func} {T T2 e : TypeId} {ty : Ty} {bytes i0 i1 i2 l3 : Nat} {o0 o1 o2 o3 : Oper} {c3 : Code} (hf : P.funcs[f]? = some fn)
    (hbody : fn.body = some (.seq (.region i0 #[o0] false) (.seq (.seq (.region i1 #[o1, o2] false) (.cond (.tmp 4) (.seq (.region i2 #[o3] false) .ret) .skip)) c3))) (hres : fn.results = #[.tmp 2]) (hn : fn.ntmps = 8) (hname : (fn.name == "runtime.NumGoroutine") = false)
    (h0 : o0.op = .assign (.const (.slice none 0 0)) ∧ o0.dst = some 2 ∧ o0.guard = none) (h3 : o3.op = .assign (.const (.slice none 0 0)) ∧ o3.dst = some 2 ∧ o3.guard = none) (h1 : o1.op = .move (.tmp 0) ∧ o1.dst = some 3 ∧ o1.guard = none) (h2 : o2.op = .binOp .eql T (.tmp 3) (.const (.slice none 0 0)) T2 ∧ o2.dst = some 4 ∧ o2.guard = none)
    (hT : P.underlying T = some (.slice e)) (hty : 0 < ty.size) (hc3 : compC P 4 c3 0 [] = some (cloneC3 ty bytes, l3)) : CallAt P f (cloneR ty bytes) := by
  intro as B r B' hr
  obtain ⟨x, l, rfl, rfl, rfl, rfl, hxl, hlen⟩ : ∃ (x : D) (l : List ty.den), as = [.d x] ∧ B = [] ∧ r = .sr 0 0 l.length ty.size none ∧ B' = [.arr ty l true] ∧ ((x = .nils ∧ l = []) ∨ x = .sl ty l) ∧ l.length * bytes ≤ 70368744177664 := by
    unfold cloneR at hr
    split at hr
    · simp only [M.run, Option.some.injEq, Prod.mk.injEq] at hr
      exact ⟨_, [], rfl, rfl, hr.1.symm, hr.2.symm, .inl ⟨rfl, rfl⟩, by simp⟩
    · rename_i t l
      obtain ⟨h1, h2⟩ := (M.run_ifb _ _ _).1 hr
      obtain ⟨h3, h4⟩ := (M.run_chk _ _ _).1 h2
      have := of_decide_eq_true h1
      subst this
      simp only [M.run, Option.some.injEq, Prod.mk.injEq] at h4
      exact ⟨_, l, rfl, rfl, h4.1.symm, h4.2.symm, .inr rfl, of_decide_eq_true h3⟩
    · simp [M.run] at hr
  refine ⟨⟨fn, hf, by simp [hbody], hname⟩, Nat.zero_le _, fun X β w vs hS hv => ?_⟩
  have hX : ∀ c, X c → c < w.heap.size := hS.old
  have hI : Ctx.inv w ∧ ∀ c, Ctx.tab c → c < w.heap.size := ⟨hS.tabs.1, fun c hc => (hS.tabs.2 c hc).1⟩
  obtain ⟨v, rfl, hv1⟩ := VRs.one hv
  have hvx : VRd X w x v := (VR.d_iff.1 hv1).anti fun c h => .inl h
  have own0 : ∀ β0 : Map, Own β0 (look []) = fun _ => False := fun β0 => by
    funext c
    exact propext ⟨fun h => own_empty h, fun h => h.elim⟩
  have hx : (v = .slice none 0 0 ∧ (x = .nils ∨ x = .sl ty []) ∧ l = []) ∨ (∃ a n c, v = .slice (some a) n c ∧ x = .sl ty l) := by
    rcases hxl with ⟨rfl, rfl⟩ | rfl
    · exact .inl ⟨hvx, .inl rfl, rfl⟩
    · have hq : RD X w (.sl ty) l (fun _ => some v) := hvx
      obtain ⟨v', e', hh⟩ := RD.slice hq
      simp only [Option.some.injEq] at e'
      subst e'
      rcases hh with ⟨q, qc, rfl, hq0, rfl⟩ | ⟨c, off, cap, rfl, _⟩
      · cases q with
        | none => rw [hq0 rfl]; exact .inl ⟨rfl, .inr rfl, rfl⟩
        | some a => exact .inr ⟨_, _, _, rfl, rfl⟩
      · exact .inr ⟨_, _, _, rfl, rfl⟩
  refine calls_of_wp hf hbody ?_
  refine wp_seq (wp_region_list (wpList_step fun K hK => ?_))
  rw [if_pos (by simp [Region.wanted, h0.2.2])]
  have e0 : ∀ (ρ : Operand → Value) (w : World), (∀ u, ρ (.const u) = u) → (execOp ρ o0).run P w = .ok (.value (.slice none 0 0)) w := by
    intro ρ w hρ
    simp [execOp, h0.1, hρ]
  unfold Oper.wp
  rw [e0 _ _ (fun u => rfl), Oper.upon_value]
  refine hK _ _ (wpList_nil ?_)
  refine wp_seq (wp_seq (wp_region_list (wpList_step fun K hK => ?_)))
  rw [if_pos (by simp [Region.wanted, h1.2.2])]
  have e1 : ∀ (ρ : Operand → Value) (w : World), (execOp ρ o1).run P w = .ok (.value (ρ (.tmp 0))) w := by
    intro ρ w
    simp [execOp, h1.1]
  unfold Oper.wp
  rw [e1, Oper.upon_value]
  refine hK _ _ (wpList_step fun K hK => ?_)
  rw [if_pos (by simp [Region.wanted, h2.2.2])]
  have e2 : ∀ (ρ : Operand → Value) (w : World) q n c, (∀ u, ρ (.const u) = u) → ρ (.tmp 3) = .slice q n c → (execOp ρ o2).run P w = .ok (.value (.bool q.isNone)) w := by
    intro ρ w q n c hρ hs
    have he := run_equal_slice_nil (P := P) w T e q n c hT
    have hg := run_eqGuard_int (P := P) (w := w) .eql T (.tmp 3) (.const (.slice none 0 0)) (.slice q n c) (.slice none 0 0) ⟨by simp, by simp⟩
    simp [execOp, h2.1, hρ, hs, Sem.run_bind, hg, binOp, he]
  have hv0 : ∃ q n c, v = .slice q n c ∧ (q.isNone = true → l = []) ∧ (q.isNone = false → x = .sl ty l) := by
    rcases hx with ⟨rfl, _, hx⟩ | ⟨a, n, c, rfl, rfl⟩
    · exact ⟨none, 0, 0, rfl, fun _ => hx, fun h => (nomatch h)⟩
    · exact ⟨some a, n, c, rfl, fun h => (nomatch h), fun _ => rfl⟩
  obtain ⟨q, nn, cc, rfl, hq1, hq2⟩ := hv0
  unfold Oper.wp
  rw [e2 _ _ q nn cc (fun u => rfl) (by simp [Act.eval, Act.put, h0.2.1, h1.2.1, hn]), Oper.upon_value]
  refine hK _ _ (wpList_nil ?_)
  have hA : SimA X (fun _ => none) (· < ([] : Boxes).length) w (cloneEnv x q.isNone) { tmps := #[.slice q nn cc, undef, .slice none 0 0, .slice q nn cc, .bool q.isNone, undef, undef, undef], defers := [] } [] := by
    have hu : ∀ {Y : Blocks}, VR Y (fun _ => none) (· < ([] : Boxes).length) w (.tup []) undef := VR.tup_iff.2 ⟨#[], rfl, by unfold VRs; trivial⟩
    have hall : ∀ c, All X (fun _ => none) (look []) c → X c := fun c h => h.elim id fun h => (own_empty h).elim
    have hxx : VR (All X (fun _ => none) (look [])) (fun _ => none) (· < ([] : Boxes).length) w (.d x) (.slice q nn cc) := VR.d_iff.2 (hvx.anti hall)
    refine ⟨SimB.empty hX hI, rfl, ?_⟩
    refine (VRs.slots (tmps := #[_, _, _, _, _, _, _, _]) ?_).2
    unfold cloneEnv
    refine VRs.mk _ _ rfl fun j a v ha hv => ?_
    match j with
    | 0 => simp at ha hv; subst ha; subst hv; exact hxx
    | 1 => simp at ha hv; subst ha; subst hv; exact hu
    | 2 => simp at ha hv; subst ha; subst hv; exact VR.d_iff.2 rfl
    | 3 => simp at ha hv; subst ha; subst hv; exact hxx
    | 4 => simp at ha hv; subst ha; subst hv; exact VR.d_iff.2 rfl
    | 5 => simp at ha hv; subst ha; subst hv; exact hu
    | 6 => simp at ha hv; subst ha; subst hv; exact hu
    | 7 => simp at ha hv; subst ha; subst hv; exact hu
    | j + 8 => simp at ha
  have hput : (({ tmps := [Value.slice q nn cc].toArray ++ Array.replicate (fn.ntmps - [Value.slice q nn cc].toArray.size) undef, defers := [] } : Act).put o0.dst (.slice none 0 0) |>.put o1.dst (.slice q nn cc) |>.put o2.dst (.bool q.isNone)) =
      { tmps := #[.slice q nn cc, undef, .slice none 0 0, .slice q nn cc, .bool q.isNone, undef, undef, undef], defers := [] } := by
    rw [h0.2.1, h1.2.1, h2.2.1, hn]
    rfl
  have hmv : ((({ tmps := [Value.slice q nn cc].toArray ++ Array.replicate (fn.ntmps - [Value.slice q nn cc].toArray.size) undef, defers := [] } : Act).put o0.dst (.slice none 0 0)).eval (.tmp 0)) = .slice q nn cc := by
    rw [h0.2.1, hn]
    rfl
  rw [hmv, hput]
  refine wp_cond (t := q.isNone) rfl ?_
  have hrs : resTmps P fn.results.toList = some [(2, none)] := by rw [hres]; rfl
  have post : ∀ (env' : Env) (B' : Boxes) (β' : Map) (N' : Nat → Prop) (a' : Act) (w' : World), (finish 0 false [(2, none)] env' B').run = some (.sr 0 0 l.length ty.size none, [.arr ty l true]) → Way X 0 (fun _ => none) w [] [] β' N' env' B' a' w' →
      bodyPost P fn (fun e w' => ∃ v β', e = .returned v ∧ SimB X β' (· < [Box.arr ty l true].length) w' (look [.arr ty l true]) ∧ VR (All X β' (look [.arr ty l true])) β' (· < [Box.arr ty l true].length) w' (.sr 0 0 l.length ty.size none) v ∧ Fr (Own β (look [])) w (Own β' (look [.arr ty l true])) w' ∧ ∀ b, b < ([] : Boxes).length → β' b = β b) .ret a' w' := by
    intro env' B' β' N' a' w' hfin hw
    obtain ⟨v', β2, g1, g2, g3, g4, _⟩ := finish_sound (fn := fn) hw.sim hrs hfin
    have hF := hw.fr.trans g4
    rw [own0] at hF
    exact ⟨hw.defers, v', g1, v', β2, rfl, g2, g3, by rw [own0]; exact hF, fun b hb => absurd hb (Nat.not_lt_zero b)⟩
  cases hq : q.isNone with
  | true =>
    refine wp_seq (wp_region_list (wpList_step fun K hK => ?_))
    rw [if_pos (by simp [Region.wanted, h3.2.2])]
    have e3 : ∀ (ρ : Operand → Value) (w : World), (∀ u, ρ (.const u) = u) → (execOp ρ o3).run P w = .ok (.value (.slice none 0 0)) w := by
      intro ρ w hρ
      simp [execOp, h3.1, hρ]
    unfold Oper.wp
    rw [e3 _ _ (fun u => rfl), Oper.upon_value]
    refine hK _ _ (wpList_nil ?_)
    refine wp_ret ?_
    rw [h3.2.1]
    have hl := hq1 hq
    subst hl
    have hlive : ∀ b, (fun _ => none : Map) b = none := fun _ => rfl
    refine ⟨rfl, .slice none 0 0, ?_, .slice none 0 0, fun _ => none, rfl, ⟨?_, ?_, ?_, ?_, hX, hI.1, ?_⟩, ?_, ?_, fun b hb => absurd hb (Nat.not_lt_zero b)⟩
    · rw [results_tmp hres]; rfl
    · rintro c ⟨b, _, h⟩; cases h
    · intro b b' c _ _ h; cases h
    · intro b
      match b with
      | 0 => exact ⟨hty, .inl ⟨rfl, rfl⟩⟩
      | b + 1 => trivial
    · intro b hb
      match b with
      | 0 => show 0 < 1; omega
      | b + 1 => exact absurd rfl hb
    · intro c hc
      exact ⟨hI.2 c hc, fun ⟨b, _, h⟩ => by cases h⟩
    · exact VR.sr_iff.2 ⟨by show 0 < 1; omega, hty, .inl ⟨rfl, rfl, rfl, rfl, rfl⟩⟩
    · rw [own0]
      have : Own (fun _ => none) (look [Box.arr ty [] true]) = fun _ => False := by
        funext c
        exact propext ⟨fun ⟨b, _, h⟩ => (by cases h), fun h => h.elim⟩
      rw [this]
      exact Fr.refl _ _
  | false =>
    rw [hq] at hA
    have := hq2 hq
    subst this
    obtain ⟨env', B', k1, k2⟩ := clone_run4 hty (bytes := bytes) (fun _ => false) (fun _ _ _ => .fail) l hlen
    refine wp_skip ?_
    exact evC_sound hm (none_ok P) 1 0 noHd c3 4 0 [] _ _ hc3 hA (fun b h => h) (fun b h => absurd h (by omega)) k1 fun β' N' a' w' hw => post env' B' β' N' a' w' k2 hw

theorem cloneR_at (hm : P.follows .mixedOrders = true) {f : FuncId} {fn : Func} (T T2 e : TypeId) (ty : Ty) (bytes : Nat) (hf : P.funcs[f]? = some fn) (hsome : (fn.body.bind cloneParts).isSome = true) (hres : fn.results = #[.tmp 2]) (hn : fn.ntmps = 8) (hname : (fn.name == "runtime.NumGoroutine") = false)
    (h01 : ((fn.body.bind cloneParts).get hsome).o0.op = .assign (.const (.slice none 0 0))) (h02 : ((fn.body.bind cloneParts).get hsome).o0.dst = some 2) (h03 : ((fn.body.bind cloneParts).get hsome).o0.guard = none)
    (h11 : ((fn.body.bind cloneParts).get hsome).o1.op = .move (.tmp 0)) (h12 : ((fn.body.bind cloneParts).get hsome).o1.dst = some 3) (h13 : ((fn.body.bind cloneParts).get hsome).o1.guard = none)
    (h21 : ((fn.body.bind cloneParts).get hsome).o2.op = .binOp .eql T (.tmp 3) (.const (.slice none 0 0)) T2) (h22 : ((fn.body.bind cloneParts).get hsome).o2.dst = some 4) (h23 : ((fn.body.bind cloneParts).get hsome).o2.guard = none)
    (h31 : ((fn.body.bind cloneParts).get hsome).o3.op = .assign (.const (.slice none 0 0))) (h32 : ((fn.body.bind cloneParts).get hsome).o3.dst = some 2) (h33 : ((fn.body.bind cloneParts).get hsome).o3.guard = none)
    (hT : P.underlying T = some (.slice e)) (hty : Nat.ble 1 ty.size = true) (hc3 : (compC P 4 ((fn.body.bind cloneParts).get hsome).c3 0 []).map (·.1) = some (cloneC3 ty bytes)) : CallAt P f (cloneR ty bytes) := by
  have hp : fn.body.bind cloneParts = some ((fn.body.bind cloneParts).get hsome) := (Option.some_get hsome).symm
  generalize (fn.body.bind cloneParts).get hsome = p at *
  cases hb : fn.body with
  | none => rw [hb] at hp; cases hp
  | some c =>
    rw [hb] at hp
    have := cloneParts_spec (c := c) hp
    obtain ⟨⟨a3, l3⟩, hc3, e3⟩ := Option.map_eq_some_iff.1 hc3
    simp only at e3
    subst e3
    exact (clone_row hm hf (by rw [hb, this]) hres hn hname ⟨h01, h02, h03⟩ ⟨h31, h32, h33⟩ ⟨h11, h12, h13⟩ ⟨h21, h22, h23⟩ hT (Nat.le_of_ble_eq_true hty) hc3)

end
end Go.Ev
