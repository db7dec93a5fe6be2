/- Calls: the evaluator's call is the model's. No condition. Plain functions; closed laws; slices.Clone. No condition. Summaries of Go's library, out of contracts. No condition. One type of bytes. No condition. Calls over plain data that were reckoned once. No condition. Loops by what they come to: a run in which loops are replaced by what is known of them. No condition. Loops by what they come to, t -/
import Derived.Test.YtahdcmicifokgaaDoorQF2
import Derived.Below
import Derived.Lib.SlTrimSet
import Derived.Lib.Join
import Derived.Lib.UnsafeStr
import Derived.KernelRfl
namespace Go.Ev
set_option linter.unusedVariables false
set_option linter.unusedSimpArgs false
set_option linter.unusedSectionVars false
variable [Ctx]

section
variable {P : Program} [TagOK P] {X : Blocks} {byref : FuncId → Bool} {call : Caller}

theorem compact_len {k0 : Nat} {env env' : Env} {B B' : Boxes} (hr : (compact k0 env B).run = some (env', B')) : k0 ≤ B'.length := by
  unfold compact at hr
  simp only at hr
  generalize reachGo B 1000 [] (List.range k0 ++ AV.refs.refsL env) = rs at hr
  obtain ⟨h1, h2⟩ := (M.run_ifb _ _ _).1 hr
  obtain ⟨env1, h3, h4⟩ := run_bind_some h2
  obtain ⟨B1, h5, h6⟩ := run_bind_some h4
  simp only [M.run, Option.some.injEq, Prod.mk.injEq] at h6
  obtain ⟨rfl, rfl⟩ := h6
  have hl : B1.length = rs.length := by
    unfold pickBoxes at h5
    obtain ⟨_, h7⟩ := (M.run_ifb _ _ _).1 h5
    split at h7
    · rename_i x hx
      simp only [M.run, Option.some.injEq] at h7
      subst h7
      have := (renBoxes_get _ _ _ hx).1
      simpa using this
    · simp [M.run] at h7
  rw [hl]
  cases k0 with
  | zero => exact Nat.zero_le _
  | succ k =>
    simp only [List.all_eq_true] at h1
    have := h1 k (List.mem_range.2 (Nat.lt_succ_self k))
    have h7 : rs[k]? = some k := by simpa using this
    exact (List.getElem?_eq_some_iff.1 h7).1

def oneResult (tmps : Array Value) : ResultVar → Sem Value
  | .tmp t => pure (tmps.getD t undef)
  | .cell a t => do loadVar t (← asAddr (tmps.getD a undef))

theorem results_eq (fn : Func) (tmps : Array Value) : results fn tmps = (do
    let vs ← fn.results.mapM (oneResult tmps)
    pure (if h : vs.size = 1 then vs[0] else .tuple vs)) := by
  unfold results
  congr 1

theorem resVals_sound {β : Map} {N : Nat → Prop} {w : World} {env : Env} {a : Act} {B : Boxes} (hS : SimA X β N w env a B) : ∀ (rs : List ResultVar) (cs : List (Nat × Option (Bool × Nat))) (vals : List AV), resTmps P rs = some cs → (resVals env B cs).run = some vals →
    ∃ us : List Value, (rs.mapM (oneResult a.tmps)).run P w = .ok us w ∧ VRs (All X β (look B)) β N w vals us
  | [], cs, vals, hc, hr => by
    simp only [resTmps, Option.some.injEq] at hc
    subst hc
    simp only [resVals, M.run, Option.some.injEq] at hr
    subst hr
    exact ⟨[], by rw [List.mapM_nil]; rfl, by unfold VRs; trivial⟩
  | .tmp t :: rs, cs, vals, hc, hr => by
    simp only [resTmps] at hc
    split at hc
    · rename_i l hl
      simp only [Option.some.injEq] at hc
      subst hc
      simp only [resVals] at hr
      obtain ⟨v, h1, h2⟩ := run_bind_some hr
      obtain ⟨vs, h3, h4⟩ := run_bind_some h2
      simp only [M.run, Option.some.injEq] at h4
      subst h4
      simp only [resVal, M.run, Option.some.injEq] at h1
      subst h1
      obtain ⟨us, g1, g2⟩ := resVals_sound hS rs l vs hl h3
      refine ⟨a.tmps.getD t undef :: us, ?_, ?_⟩
      · rw [List.mapM_cons, Sem.run_bind]
        have : (oneResult a.tmps (.tmp t)).run P w = .ok (a.tmps.getD t undef) w := rfl
        rw [this]
        simp only [Result.andThen_ok]
        rw [Sem.run_bind, g1]
        rfl
      · unfold VRs
        exact ⟨hS.slot t, g2⟩
    · cases hc
  | .cell p t :: rs, cs, vals, hc, hr => by
    simp only [resTmps] at hc
    split at hc
    · rename_i n l hn hl
      split at hc
      · rename_i hu
        simp only [Option.some.injEq] at hc
        subst hc
        simp only [resVals] at hr
        obtain ⟨v, h1, h2⟩ := run_bind_some hr
        obtain ⟨vs, h3, h4⟩ := run_bind_some h2
        simp only [M.run, Option.some.injEq] at h4
        subst h4
        obtain ⟨us, g1, g2⟩ := resVals_sound hS rs l vs hl h3
        simp only [resVal] at h1
        obtain ⟨⟨cs, rd⟩, k1, k2⟩ := run_bind_some h1
        obtain ⟨c, off, hp, hlen, hcell⟩ := cellsAt_sound k1 hS.heap (hS.slot p)
        obtain ⟨ws, q1, q2, q3, q4⟩ := rows_of cs hcell
        have hval : (aggT P t = true ∧ v = .agg cs) ∨ (aggT P t = false ∧ cs = [v]) := by
          simp only at k2
          split at k2
          · rename_i ha
            simp only [M.run, Option.some.injEq] at k2
            exact .inl ⟨ha, k2.symm⟩
          · rename_i c ha
            simp only [M.run, Option.some.injEq] at k2
            subst k2
            exact .inr ⟨ha, rfl⟩
          · simp [M.run] at k2
        have hload := run_loadVar_any (P := P) hu hn (q1.trans hlen) q4 (fun ha => hval.elim (fun h => by rw [ha] at h; exact absurd h.1 (by simp)) (fun h => by rw [h.2] at hlen; simpa using hlen.symm))
        refine ⟨(if aggT P t then .agg ws.toArray else ws.headD undef) :: us, ?_, ?_⟩
        · rw [List.mapM_cons, Sem.run_bind]
          have : (oneResult a.tmps (.cell p t)).run P w = .ok (if aggT P t then .agg ws.toArray else ws.headD undef) w := by
            show (do loadVar t (← asAddr (a.tmps.getD p undef)) : Sem Value).run P w = _
            rw [hp, Sem.run_bind]
            exact hload
          rw [this]
          simp only [Result.andThen_ok]
          rw [Sem.run_bind, g1]
          rfl
        · unfold VRs
          refine ⟨?_, g2⟩
          rcases hval with ⟨ha, rfl⟩ | ⟨ha, rfl⟩
          · rw [if_pos ha]; exact VR.agg_iff.2 ⟨_, rfl, q2⟩
          · rw [if_neg (by simp [ha])]
            obtain ⟨u, rfl, hu⟩ := VRs.one q2
            exact hu
      · cases hc
    · cases hc

def oneVal (us : List Value) : Value := match us with
  | [u] => u
  | us => .tuple us.toArray

theorem results_sound {fn : Func} {tmps : Array Value} {us : List Value} {w : World} (h : (fn.results.toList.mapM (oneResult tmps)).run P w = .ok us w) : (results fn tmps).run P w = .ok (oneVal us) w := by
  rw [results_eq, Array.mapM_eq_mapM_toList, Sem.run_bind, map_eq_pure_bind, Sem.run_bind, h]
  simp only [Result.andThen_ok]
  rcases us with _ | ⟨u, _ | ⟨v, r⟩⟩ <;> rfl

theorem oneVal_sound {Y : Blocks} {β : Map} {N : Nat → Prop} {w : World} {as : List AV} {us : List Value} (h : VRs Y β N w as us) : VR Y β N w (oneOf as) (oneVal us) := by
  rcases as with _ | ⟨a, _ | ⟨b, r⟩⟩ <;> rcases us with _ | ⟨u, _ | ⟨v, s⟩⟩
  all_goals first
    | exact VR.tup_iff.2 ⟨_, rfl, by simpa using h⟩
    | (have := VRs.len _ _ h; simp at this; done)
    | skip
  unfold VRs at h
  exact h.1

def CallAt (P : Program) (f : FuncId) (g : List AV → Boxes → M (AV × Boxes)) : Prop := ∀ (as : List AV) (B : Boxes) (r : AV) (B' : Boxes), (g as B).run = some (r, B') →
  (∃ fn, P.funcs[f]? = some fn ∧ fn.body.isNone = false ∧ (fn.name == "runtime.NumGoroutine") = false) ∧ B.length ≤ B'.length ∧
  ∀ (X : Blocks) (β : Map) (w : World) (vs : List Value), SimB X β (· < B.length) w (look B) → VRs (All X β (look B)) β (· < B.length) w as vs →
    Calls P f vs.toArray w fun e w' => ∃ v β', e = .returned v ∧ SimB X β' (· < B'.length) w' (look B') ∧ VR (All X β' (look B')) β' (· < B'.length) w' r v ∧
      Fr (Own β (look B)) w (Own β' (look B')) w' ∧ ∀ b, b < B.length → β' b = β b

theorem CallAt.ok {call : Caller} (h : ∀ f, CallAt P f (call f)) : CallOK P call := fun f as B r B' hr => h f as B r B' hr

theorem finish_sound {k0 : Nat} {plain : Bool} {rs : List (Nat × Option (Bool × Nat))} {fn : Func} {env : Env} {B B' : Boxes} {r : AV} {β : Map} {N : Nat → Prop} {w : World} {a : Act} (hS : SimA X β N w env a B)
    (hrs : resTmps P fn.results.toList = some rs) (hr : (finish k0 plain rs env B).run = some (r, B')) :
    ∃ v β', (results fn a.tmps).run P w = .ok v w ∧ SimB X β' (· < B'.length) w (look B') ∧ VR (All X β' (look B')) β' (· < B'.length) w r v ∧ Fr (Own β (look B)) w (Own β' (look B')) w ∧ ∀ b, b < k0 → β' b = β b := by
  unfold finish at hr
  obtain ⟨vals, h1, h2⟩ := run_bind_some hr
  obtain ⟨⟨vals', ws⟩, h3, h4⟩ := run_bind_some h2
  simp only at h4
  obtain ⟨⟨vs', B1⟩, h5, h6⟩ := run_bind_some h4
  simp only [M.run, Option.some.injEq, Prod.mk.injEq] at h6
  obtain ⟨rfl, rfl⟩ := h6
  obtain ⟨us, g1, g2⟩ := resVals_sound hS _ _ _ hrs h1
  have hsnap : SimB X β N w (updsL (look B) ws) ∧ Fr (Own β (look B)) w (Own β (updsL (look B) ws)) w ∧ VRs (All X β (updsL (look B) ws)) β N w vals' us := by
    split at h3
    · obtain ⟨a1, a2, a3, _⟩ := snapL_sound vals vals' ws us (look B) hS.heap (Cl.refl _) h3 g2
      exact ⟨a1, a2, a3⟩
    · simp only [M.run, Option.some.injEq, Prod.mk.injEq] at h3
      obtain ⟨rfl, rfl⟩ := h3
      exact ⟨hS.heap, Fr.refl _ _, g2⟩
  obtain ⟨s1, s2, s3⟩ := hsnap
  rw [← look_upd] at s1 s2 s3
  obtain ⟨β', c1, c2, c3, c4⟩ := compact_sound s1 h5 s3
  exact ⟨oneVal us, β', results_sound g1, c1, oneVal_sound c2, s2.trans c3, fun b hb => (c4 b hb).2⟩

theorem evCall_atH (hm : P.follows .mixedOrders = true) (kinds : FuncId → Bool × Bool) (hds : FuncId → Nat → Hd) (S : FuncId → Option (List AV → Boxes → M (AV × Boxes))) (hS : ∀ f s, S f = some s → CallAt P f s) :
    ∀ n f, CallAt P f (evCall (fnsH P kinds hds) S n f)
  | 0, f => fun as B r B' hr => by simp [evCall, M.run] at hr
  | n + 1, f => fun as B r B' hr => by
    have ih := CallAt.ok (evCall_atH hm kinds hds S hS n)
    simp only [evCall] at hr
    split at hr
    · rename_i s hs
      exact hS f s hs as B r B' hr
    · split at hr
      · simp [M.run] at hr
      · rename_i fn1 hfn1
        unfold fnsH at hfn1
        obtain ⟨fn, hfn, rfl⟩ : ∃ fn, fnsOf P kinds f = some fn ∧ { fn with hd := hds f } = fn1 := by
          split at hfn1
          · rename_i fn hfn
            exact ⟨fn, hfn, Option.some.inj hfn1⟩
          · cases hfn1
        clear hfn1
        unfold fnsOf at hfn
        split at hfn
        · rename_i fd hfd
          unfold compFn at hfn
          split at hfn
          · rename_i c hbody
            split at hfn
            · cases hfn
            · rename_i hname
              split at hfn
              · rename_i rs hrs
                split at hfn
                · rename_i ac la hac
                  simp only [Option.some.injEq] at hfn
                  subst hfn
                  simp only at hr
                  obtain ⟨⟨e, env, B1⟩, h1, h2⟩ := run_bind_some hr
                  simp only at h2
                  have hfin : (∀ id, e ≠ .exit id) ∧ (finish B.length (kinds f).1 rs env B1).run = some (r, B') := by
                    cases e with
                    | exit id => simp [M.run] at h2
                    | normal => exact ⟨fun id h => (by cases h), h2⟩
                    | ret => exact ⟨fun id h => (by cases h), h2⟩
                  obtain ⟨hne, hfin⟩ := hfin
                  refine ⟨⟨fd, hfd, by simp [hbody], by simpa using hname⟩, ?_, ?_⟩
                  · unfold finish at hfin
                    obtain ⟨vals, k1, k2⟩ := run_bind_some hfin
                    obtain ⟨⟨vals', ws⟩, k3, k4⟩ := run_bind_some k2
                    simp only at k4
                    obtain ⟨⟨vs', B2⟩, k5, k6⟩ := run_bind_some k4
                    simp only [M.run, Option.some.injEq, Prod.mk.injEq] at k6
                    obtain ⟨_, rfl⟩ := k6
                    exact compact_len k5
                  · intro X β w vs hB hv
                    refine calls_of_wp hfd hbody ?_
                    have hlv := VRs.len _ _ hv
                    have hA : SimA X β (· < B.length) w (as ++ List.replicate (fd.ntmps - as.length) (.tup [])) { tmps := vs.toArray ++ Array.replicate (fd.ntmps - vs.toArray.size) undef, defers := [] } B := by
                      refine ⟨hB, by simp [hlv], fun i => ?_⟩
                      rw [List.getD_eq_getElem?_getD, List.getElem?_append, Array.getD_eq_getD_getElem?, Array.getElem?_append]
                      simp only [List.size_toArray]
                      rw [hlv]
                      split
                      · rename_i hi
                        have hi' : i < as.length := by omega
                        rw [List.getElem?_eq_getElem hi', List.getElem?_toArray, List.getElem?_eq_getElem hi]
                        exact VRs.get _ _ hv i _ _ (List.getElem?_eq_getElem hi') (List.getElem?_eq_getElem hi)
                      · rw [List.getElem?_replicate, Array.getElem?_replicate]
                        split
                        · exact VR.tup_iff.2 ⟨#[], rfl, by unfold VRs; trivial⟩
                        · exact VR.top_iff.2 trivial
                    refine evC_sound hm ih n B.length (hds f) c _ _ _ _ _ hac hA (fun b hb => hb) (fun b hb => hb) h1 fun β1 N1 a1 w1 hw => ?_
                    obtain ⟨v, β2, g1, g2, g3, g4, g5⟩ := finish_sound (fn := fd) hw.sim hrs hfin
                    have post : a1.defers = [] ∧ ∃ v, (results fd a1.tmps).run P w1 = .ok v w1 ∧ ∃ v' β', Ending.returned v = .returned v' ∧ SimB X β' (· < B'.length) w1 (look B') ∧ VR (All X β' (look B')) β' (· < B'.length) w1 r v' ∧
                        Fr (Own β (look B)) w (Own β' (look B')) w1 ∧ ∀ b, b < B.length → β' b = β b :=
                      ⟨hw.defers, v, g1, v, β2, rfl, g2, g3, hw.fr.trans g4, fun b hb => (g5 b hb).trans (hw.more b hb).2⟩
                    cases e with
                    | exit id => exact absurd rfl (hne id)
                    | normal => exact post
                    | ret => exact post
                · cases hfn
              · cases hfn
          · cases hfn
        · cases hfn

theorem fnsH_no (P : Program) (kinds : FuncId → Bool × Bool) : fnsH P kinds (fun _ => noHd) = fnsOf P kinds := by
  funext f
  unfold fnsH
  split
  · rename_i fn hfn
    rw [hfn]
    have : fn.hd = noHd := by
      unfold fnsOf compFn at hfn
      split at hfn
      · split at hfn
        · split at hfn
          · cases hfn
          · split at hfn
            · split at hfn
              · simp only [Option.some.injEq] at hfn
                subst hfn
                rfl
              · cases hfn
            · cases hfn
        · cases hfn
      · cases hfn
    rw [← this]
  · rename_i hfn
    rw [hfn]

theorem evCall_at (hm : P.follows .mixedOrders = true) (kinds : FuncId → Bool × Bool) (S : FuncId → Option (List AV → Boxes → M (AV × Boxes))) (hS : ∀ f s, S f = some s → CallAt P f s) (n : Nat) (f : FuncId) :
    CallAt P f (evCall (fnsOf P kinds) S n f) := by
  have := evCall_atH hm kinds (fun _ => noHd) S hS n f
  rwa [fnsH_no] at this

end
end Go.Ev
namespace Go.Ev
set_option linter.unusedVariables false
set_option linter.unusedSimpArgs false
set_option linter.unusedSectionVars false
variable [Ctx]

section
variable {P : Program} [TagOK P]

def PlainOK (P : Program) (f : FuncId) (g : List D → M D) : Prop := ∀ (ds : List D) (r : D), (g ds).run = some r →
  (∃ fn, P.funcs[f]? = some fn ∧ fn.body.isNone = false ∧ (fn.name == "runtime.NumGoroutine") = false) ∧
  ∀ (X : Blocks) (w : World) (vs : List Value), (∀ c, X c → c < w.heap.size) → (Ctx.inv w ∧ ∀ c, Ctx.tab c → c < w.heap.size) → VRs X (fun _ => none) (fun _ => False) w (ds.map .d) vs →
    Calls P f vs.toArray w fun e w' => ∃ v, e = .returned v ∧ VRd X w' r v ∧ Fr (fun _ => False) w (fun _ => False) w'

def PlainV (P : Program) (f : FuncId) (g : List D → M AV) : Prop := ∀ (ds : List D) (r : AV), (g ds).run = some r →
  (∃ fn, P.funcs[f]? = some fn ∧ fn.body.isNone = false ∧ (fn.name == "runtime.NumGoroutine") = false) ∧
  ∀ (X : Blocks) (w : World) (vs : List Value), (∀ c, X c → c < w.heap.size) → (Ctx.inv w ∧ ∀ c, Ctx.tab c → c < w.heap.size) → VRs X (fun _ => none) (fun _ => False) w (ds.map .d) vs →
    Calls P f vs.toArray w fun e w' => ∃ v, e = .returned v ∧ VR X (fun _ => none) (fun _ => False) w' r v ∧ Fr (fun _ => False) w (fun _ => False) w'

def plainV (g : List D → M AV) : List AV → Boxes → M (AV × Boxes) := fun as B => (optM (asDs as)).bind fun ds => (g ds).bind fun r => .ret (r, B)

def plainS (g : List D → M D) : List AV → Boxes → M (AV × Boxes) := fun as B => (optM (asDs as)).bind fun ds => (g ds).bind fun r => .ret (.d r, B)

theorem VRs.plain {X : Blocks} {β β' : Map} {N N' : Nat → Prop} {w : World} : ∀ (ds : List D) (vs : List Value), VRs X β N w (ds.map .d) vs → VRs X β' N' w (ds.map .d) vs
  | [], [], h => by unfold VRs; trivial
  | [], _ :: _, h => by simp only [List.map_nil] at h; unfold VRs at h; exact h.elim
  | _ :: _, [], h => by simp only [List.map_cons] at h; unfold VRs at h; exact h.elim
  | d :: ds, v :: vs, h => by
    simp only [List.map_cons] at h ⊢
    unfold VRs at h ⊢
    exact ⟨VR.d_iff.2 (VR.d_iff.1 h.1), VRs.plain ds vs h.2⟩

theorem plainV_at {f : FuncId} {g : List D → M AV} (h : PlainV P f g) : CallAt P f (plainV g) := by
  intro as B r B' hr
  unfold plainV at hr
  obtain ⟨ds, h1, h2⟩ := run_bind_some hr
  obtain ⟨r0, h3, h4⟩ := run_bind_some h2
  simp only [M.run, Option.some.injEq, Prod.mk.injEq] at h4
  obtain ⟨rfl, rfl⟩ := h4
  have := asDs_spec _ _ (optM_run h1)
  subst this
  obtain ⟨g1, g2⟩ := h ds r0 h3
  refine ⟨g1, Nat.le_refl _, fun X β w vs hS hv => ?_⟩
  have ownLt : ∀ c, Own β (look B) c → c < w.heap.size := by
    rintro c ⟨b, h1, h2⟩
    exact hS.lt (fun e => by rw [e] at h1; simp [Box.live] at h1) h2
  refine (g2 (All X β (look B)) w vs (fun c hc => hc.elim (hS.old c) (ownLt c)) ⟨hS.tabs.1, fun c hc => (hS.tabs.2 c hc).1⟩ (VRs.plain ds vs hv)).mono ?_
  rintro e w' ⟨v, rfl, k1, k2⟩
  have hb : ∀ c, c < w.heap.size → w'.heap[c]? = w.heap[c]? := fun c hc => (k2.blk c hc (fun h => h)).2
  have hF : Fr (Own β (look B)) w (Own β (look B)) w' := ⟨k2.os, k2.tape, k2.output, k2.size, fun c hc hn => ⟨hn, hb c hc⟩, k2.shape⟩
  have mv : Mv (All X β (look B)) β (· < B.length) w (All X β (look B)) β (· < B.length) w' := ⟨k2.size, fun c hc hn => ⟨hn, hb c hc⟩, k2.shape, fun b hb => hb, fun b hb => rfl⟩
  have mv2 : Mv (All X β (look B)) (fun _ => none) (fun _ => False) w' (All X β (look B)) β (· < B.length) w' := ⟨Nat.le_refl _, fun c _ hn => ⟨hn, rfl⟩, fun c arr e fz h => ⟨arr, fz, h, rfl⟩, fun b hb => hb.elim, fun b hb => hb.elim⟩
  refine ⟨v, β, rfl, ⟨hS.apart, hS.inj, fun b => ?_, hS.dom, fun c hc => Nat.lt_of_lt_of_le (hS.old c hc) k2.size, hS.tabs' hF⟩, k1.move mv2, hF, fun b _ => rfl⟩
  by_cases hd : look B b = .dead
  · rw [hd]; trivial
  · exact (hS.box b).move mv (hS.dom b hd) fun c hc _ => hb c (hS.lt hd hc)

theorem plainS_at {f : FuncId} {g : List D → M D} (h : PlainOK P f g) : CallAt P f (plainS g) := by
  have hV : PlainV P f (fun ds => (g ds).bind fun r => .ret (.d r)) := by
    intro ds r hr
    obtain ⟨r0, h3, h4⟩ := run_bind_some hr
    simp only [M.run, Option.some.injEq] at h4
    subst h4
    obtain ⟨g1, g2⟩ := h ds r0 h3
    exact ⟨g1, fun X w vs hX hI hv => (g2 X w vs hX hI hv).mono fun e w' ⟨v, h1, h2, h3⟩ => ⟨v, h1, VR.d_iff.2 h2, h3⟩⟩
  intro as B r B' hr
  refine plainV_at hV as B r B' ?_
  unfold plainS at hr
  obtain ⟨ds, h1, h2⟩ := run_bind_some hr
  obtain ⟨r0, h3, h4⟩ := run_bind_some h2
  unfold plainV
  exact run_bind_mk (m := .fail) (f := fun _ => .fail) h1 (run_bind_mk (m := .fail) (f := fun _ => .fail) (run_bind_mk (m := .fail) (f := fun _ => .fail) h3 rfl) h4)

theorem none_ok (P : Program) : CallOK P (fun _ _ _ => .fail) := fun f as B r B' hr => by simp [M.run] at hr

theorem SimB.empty {X : Blocks} {β : Map} {N : Nat → Prop} {w : World} (hX : ∀ c, X c → c < w.heap.size) (hI : Ctx.inv w ∧ ∀ c, Ctx.tab c → c < w.heap.size) : SimB X β N w (look []) := by
  have e : ∀ b, look [] b = .dead := fun b => rfl
  refine ⟨fun c h => ?_, fun b b' c h => ?_, fun b => ?_, fun b h => absurd (e b) h, hX, hI.1, fun c hc => ⟨hI.2 c hc, fun ho => ?_⟩⟩
  · obtain ⟨b, h1, _⟩ := h
    rw [e] at h1; simp [Box.live] at h1
  · rw [e] at h; simp [Box.live] at h
  · rw [e]; trivial
  · obtain ⟨b, h1, _⟩ := ho
    rw [e] at h1; simp [Box.live] at h1

theorem own_empty {β : Map} {c : Nat} (h : Own β (look []) c) : False := by
  obtain ⟨b, h1, _⟩ := h
  simp [look, Box.live] at h1

theorem closed_law (hm : P.follows .mixedOrders = true) {kinds : FuncId → Bool × Bool} {S : FuncId → Option (List AV → Boxes → M (AV × Boxes))} (hS : ∀ f s, S f = some s → CallAt P f s) {n : Nat} {f : FuncId} {b : Bool}
    (h : (evCall (fnsOf P kinds) S n f [] []).run = some (.d (.bool b), [])) (W : World) (hI : Ctx.inv W ∧ ∀ c, Ctx.tab c → c < W.heap.size) : Calls P f #[] W fun e w' => e = .returned (.bool b) ∧ RowKit.Below W.heap.size W w' := by
  obtain ⟨_, _, h3⟩ := evCall_at hm kinds S hS n f [] [] _ _ h
  refine (h3 (fun _ => False) (fun _ => none) W [] (SimB.empty (fun c h => h.elim) hI) (by unfold VRs; trivial)).mono ?_
  rintro e w' ⟨v, β', rfl, _, k2, k3, _⟩
  have : v = .bool b := VR.d_iff.1 k2
  subst this
  exact ⟨rfl, k3.os, k3.tape, k3.output, k3.size, fun k hk => (k3.blk k hk fun h => own_empty h).2⟩

def cloneG (ty : Ty) (bytes : Nat) : List D → M D
  | [.nils] => .ret .nils
  | [.sl t l] => .ifb (decide (t = ty)) (.chk (decide (l.length * bytes ≤ 70368744177664)) (.ret (.sl t l)))
  | _ => .fail

def cloneC3 (ty : Ty) (bytes : Nat) : AC := .seq (.region [⟨some 5, none, .lit ty 0 [], []⟩, ⟨some 6, none, .mv, [.tmp 0]⟩, ⟨some 7, none, .app ty bytes, [.tmp 5, .tmp 6]⟩, ⟨some 2, none, .mv, [.tmp 7]⟩] none) .ret

def cloneEnv (x : D) (t : Bool) : Env := [.d x, .tup [], .d .nils, .d x, .d (.bool t), .tup [], .tup [], .tup []]

def outEnv3 (x : D) (y z : AV) : Env := [.d x, .tup [], y, .d x, .d (.bool false), z, .d x, y]

theorem fin_run {ty : Ty} {l : List ty.den} {env : Env} {B : Boxes} {b : Nat} {cap : Option Nat} (h : env.getD 2 .top = .sr b 0 l.length ty.size cap) (hB : look B b = .arr ty l true) : (finish 0 true [(2, none)] env B).run = some (.d (.sl ty l), []) := by
  have h1 : (resVals env B [(2, none)]).run = some [.sr b 0 l.length ty.size cap] := by simp only [resVals, resVal, h, M.bind, M.run]
  have h2 : (snapL B [.sr b 0 l.length ty.size cap]).run = some ([.d (.sl ty l)], [(b, .arr ty l false)]) := by
    simp [snapL, snap, toD, hB, M.ifb, M.chk, M.bind, M.run]
  unfold finish
  refine run_bind_mk (m := .fail) (f := fun _ => .fail) h1 ?_
  simp only [if_true]
  refine run_bind_mk (m := .fail) (f := fun _ => .fail) h2 ?_
  rfl

theorem clone_run3 {ty : Ty} (h : 0 < ty.size) {bytes : Nat} (b : FuncId → Bool) (call : Caller) (l : List ty.den) (hl : l.length * bytes ≤ 70368744177664) : ∃ env' B', (evC b call 1 0 noHd (cloneC3 ty bytes) (cloneEnv (.sl ty l) false) []).run = some (.ret, env', B') ∧ (finish 0 true [(2, none)] env' B').run = some (.d (.sl ty l), []) := by
  have hb : Nat.blt 0 ty.size = true := by rw [Nat.blt, Nat.ble_eq]; exact h
  refine ⟨outEnv3 (.sl ty l) (.sr 1 0 l.length ty.size none) (.sr 0 0 0 ty.size none), [.dead, .arr ty l true], ?_, fin_run (b := 1) (cap := none) rfl rfl⟩
  simp [cloneC3, cloneEnv, evC, evOps, evOper, evOp, hb, M.ifb, M.bind, M.run, cellsD, litRow, setD, upd, setE, rdA, content, look, M.chk, splice, outEnv3, hl, litCap]

theorem clone_plain (hm : P.follows .mixedOrders = true) {f : FuncId} {fn : Func} {T T2 e : TypeId} {ty : Ty} {bytes i0 i1 i2 l3 : Nat} {o0 o1 o2 o3 : Oper} {c3 : Code} (hf : P.funcs[f]? = some fn)
    (hbody : fn.body = some (.seq (.region i0 #[o0] false) (.seq (.seq (.region i1 #[o1, o2] false) (.cond (.tmp 4) (.seq (.region i2 #[o3] false) .ret) .skip)) c3))) (hres : fn.results = #[.tmp 2]) (hn : fn.ntmps = 8) (hname : (fn.name == "runtime.NumGoroutine") = false)
    (h0 : o0.op = .assign (.const (.slice none 0 0)) ∧ o0.dst = some 2 ∧ o0.guard = none) (h3 : o3.op = .assign (.const (.slice none 0 0)) ∧ o3.dst = some 2 ∧ o3.guard = none) (h1 : o1.op = .move (.tmp 0) ∧ o1.dst = some 3 ∧ o1.guard = none) (h2 : o2.op = .binOp .eql T (.tmp 3) (.const (.slice none 0 0)) T2 ∧ o2.dst = some 4 ∧ o2.guard = none)
    (hT : P.underlying T = some (.slice e)) (hty : 0 < ty.size) (hc3 : compC P 4 c3 0 [] = some (cloneC3 ty bytes, l3)) : PlainOK P f (cloneG ty bytes) := by
  intro ds r hr
  refine ⟨⟨fn, hf, by simp [hbody], hname⟩, fun X w vs hX hI hv => ?_⟩
  -- one slice
  obtain ⟨x, l, v, rfl, rfl, rfl, hvx, hx, hlen⟩ : ∃ (x : D) (l : List ty.den) (v : Value), ds = [x] ∧ vs = [v] ∧ x = r ∧ VRd X w x v ∧ ((v = .slice none 0 0 ∧ (x = .nils ∨ x = .sl ty [])) ∨ (∃ a n c, v = .slice (some a) n c ∧ x = .sl ty l)) ∧ l.length * bytes ≤ 70368744177664 := by
    unfold cloneG at hr
    split at hr
    · simp only [M.run, Option.some.injEq] at hr
      obtain ⟨v, rfl, h⟩ := VRs.one hv
      have h := VR.d_iff.1 h
      exact ⟨_, [], v, rfl, rfl, hr, h, .inl ⟨h, .inl rfl⟩, by simp⟩
    · rename_i t l
      obtain ⟨h1, h2⟩ := (M.run_ifb _ _ _).1 hr
      obtain ⟨h3, h4⟩ := (M.run_chk _ _ _).1 h2
      have := of_decide_eq_true h1
      subst this
      simp only [M.run, Option.some.injEq] at h4
      obtain ⟨v, rfl, h⟩ := VRs.one hv
      have h := VR.d_iff.1 h
      have hq : RD X w (.sl t) l (fun _ => some v) := h
      obtain ⟨v', e', hh⟩ := RD.slice hq
      simp only [Option.some.injEq] at e'
      subst e'
      refine ⟨_, l, v, rfl, rfl, h4, h, ?_, of_decide_eq_true h3⟩
      rcases hh with ⟨q, qc, rfl, hq0, rfl⟩ | ⟨c, off, cap, rfl, _⟩
      · cases q with
        | none => rw [hq0 rfl]; exact .inl ⟨rfl, .inr rfl⟩
        | some a => exact .inr ⟨_, _, _, rfl, rfl⟩
      · exact .inr ⟨_, _, _, rfl, rfl⟩
    · simp [M.run] at hr
  refine calls_of_wp hf hbody ?_
  refine wp_seq (wp_region_list (wpList_step fun K hK => ?_))
  rw [if_pos (by simp [Region.wanted, h0.2.2])]
  have e0 : ∀ (ρ : Operand → Value) (w : World), (∀ u, ρ (.const u) = u) → (execOp ρ o0).run P w = .ok (.value (.slice none 0 0)) w := by
    intro ρ w hρ
    simp [execOp, h0.1, hρ]
  unfold Oper.wp
  rw [e0 _ _ (fun u => rfl), Oper.upon_value]
  refine hK _ _ (wpList_nil ?_)
  refine wp_seq (wp_seq (wp_region_list (wpList_step fun K hK => ?_)))
  rw [if_pos (by simp [Region.wanted, h1.2.2])]
  have e1 : ∀ (ρ : Operand → Value) (w : World), (execOp ρ o1).run P w = .ok (.value (ρ (.tmp 0))) w := by
    intro ρ w
    simp [execOp, h1.1]
  unfold Oper.wp
  rw [e1, Oper.upon_value]
  refine hK _ _ (wpList_step fun K hK => ?_)
  rw [if_pos (by simp [Region.wanted, h2.2.2])]
  have e2 : ∀ (ρ : Operand → Value) (w : World) q n c, (∀ u, ρ (.const u) = u) → ρ (.tmp 3) = .slice q n c → (execOp ρ o2).run P w = .ok (.value (.bool q.isNone)) w := by
    intro ρ w q n c hρ hs
    have he := run_equal_slice_nil (P := P) w T e q n c hT
    have hg := run_eqGuard_int (P := P) (w := w) .eql T (.tmp 3) (.const (.slice none 0 0)) (.slice q n c) (.slice none 0 0) ⟨by simp, by simp⟩
    simp [execOp, h2.1, hρ, hs, Sem.run_bind, hg, binOp, he]
  have hv0 : ∃ q n c, v = .slice q n c ∧ (q.isNone = true → x = .nils ∨ x = .sl ty []) ∧ (q.isNone = false → x = .sl ty l) := by
    rcases hx with ⟨rfl, hx⟩ | ⟨a, n, c, rfl, rfl⟩
    · exact ⟨none, 0, 0, rfl, fun _ => hx, fun h => (nomatch h)⟩
    · exact ⟨some a, n, c, rfl, fun h => (nomatch h), fun _ => rfl⟩
  obtain ⟨q, nn, cc, rfl, hq1, hq2⟩ := hv0
  unfold Oper.wp
  rw [e2 _ _ q nn cc (fun u => rfl) (by simp [Act.eval, Act.put, h0.2.1, h1.2.1, hn]), Oper.upon_value]
  refine hK _ _ (wpList_nil ?_)
  have hA : SimA X (fun _ => none) (· < ([] : Boxes).length) w (cloneEnv x q.isNone) { tmps := #[.slice q nn cc, undef, .slice none 0 0, .slice q nn cc, .bool q.isNone, undef, undef, undef], defers := [] } [] := by
    have hu : ∀ {Y : Blocks}, VR Y (fun _ => none) (· < ([] : Boxes).length) w (.tup []) undef := VR.tup_iff.2 ⟨#[], rfl, by unfold VRs; trivial⟩
    have hall : ∀ c, All X (fun _ => none) (look []) c → X c := fun c h => h.elim id fun h => (own_empty h).elim
    have hxx : VR (All X (fun _ => none) (look [])) (fun _ => none) (· < ([] : Boxes).length) w (.d x) (.slice q nn cc) := VR.d_iff.2 (hvx.anti hall)
    refine ⟨SimB.empty hX hI, rfl, ?_⟩
    refine (VRs.slots (tmps := #[_, _, _, _, _, _, _, _]) ?_).2
    unfold cloneEnv
    refine VRs.mk _ _ rfl fun j a v ha hv => ?_
    match j with
    | 0 => simp at ha hv; subst ha; subst hv; exact hxx
    | 1 => simp at ha hv; subst ha; subst hv; exact hu
    | 2 => simp at ha hv; subst ha; subst hv; exact VR.d_iff.2 rfl
    | 3 => simp at ha hv; subst ha; subst hv; exact hxx
    | 4 => simp at ha hv; subst ha; subst hv; exact VR.d_iff.2 rfl
    | 5 => simp at ha hv; subst ha; subst hv; exact hu
    | 6 => simp at ha hv; subst ha; subst hv; exact hu
    | 7 => simp at ha hv; subst ha; subst hv; exact hu
    | j + 8 => simp at ha
  have hput : (({ tmps := [Value.slice q nn cc].toArray ++ Array.replicate (fn.ntmps - [Value.slice q nn cc].toArray.size) undef, defers := [] } : Act).put o0.dst (.slice none 0 0) |>.put o1.dst (.slice q nn cc) |>.put o2.dst (.bool q.isNone)) =
      { tmps := #[.slice q nn cc, undef, .slice none 0 0, .slice q nn cc, .bool q.isNone, undef, undef, undef], defers := [] } := by
    rw [h0.2.1, h1.2.1, h2.2.1, hn]
    rfl
  have hmv : ((({ tmps := [Value.slice q nn cc].toArray ++ Array.replicate (fn.ntmps - [Value.slice q nn cc].toArray.size) undef, defers := [] } : Act).put o0.dst (.slice none 0 0)).eval (.tmp 0)) = .slice q nn cc := by
    rw [h0.2.1, hn]
    rfl
  rw [hmv, hput]
  refine wp_cond (t := q.isNone) rfl ?_
  have hrs : resTmps P fn.results.toList = some [(2, none)] := by rw [hres]; rfl
  have post : ∀ (env' : Env) (B' : Boxes) (β' : Map) (N' : Nat → Prop) (a' : Act) (w' : World), (finish 0 true [(2, none)] env' B').run = some (.d (.sl ty l), []) → Way X 0 (fun _ => none) w [] [] β' N' env' B' a' w' →
      bodyPost P fn (fun e w' => ∃ v, e = .returned v ∧ VRd X w' (.sl ty l) v ∧ Fr (fun _ => False) w (fun _ => False) w') .ret a' w' := by
    intro env' B' β' N' a' w' hfin hw
    obtain ⟨v', β2, g1, g2, g3, g4, _⟩ := finish_sound (fn := fn) hw.sim hrs hfin
    have hF := hw.fr.trans g4
    exact ⟨hw.defers, v', g1, v', rfl, (VR.d_iff.1 g3).anti fun c hc => .inl hc, hF.os, hF.tape, hF.output, hF.size, fun c hc _ => ⟨fun h => h, (hF.blk c hc fun h => own_empty h).2⟩, hF.shape⟩
  cases hq : q.isNone with
  | true =>
    refine wp_seq (wp_region_list (wpList_step fun K hK => ?_))
    rw [if_pos (by simp [Region.wanted, h3.2.2])]
    have e3 : ∀ (ρ : Operand → Value) (w : World), (∀ u, ρ (.const u) = u) → (execOp ρ o3).run P w = .ok (.value (.slice none 0 0)) w := by
      intro ρ w hρ
      simp [execOp, h3.1, hρ]
    unfold Oper.wp
    rw [e3 _ _ (fun u => rfl), Oper.upon_value]
    refine hK _ _ (wpList_nil ?_)
    refine wp_ret ?_
    rw [h3.2.1]
    refine ⟨rfl, .slice none 0 0, ?_, .slice none 0 0, rfl, ?_, Fr.refl _ _⟩
    · rw [results_tmp hres]; rfl
    · rcases hq1 hq with rfl | rfl
      · rfl
      · exact RD.nil rfl
  | false =>
    rw [hq] at hA
    have := hq2 hq
    subst this
    obtain ⟨env', B', k1, k2⟩ := clone_run3 hty (bytes := bytes) (fun _ => false) (fun _ _ _ => .fail) l hlen
    refine wp_skip ?_
    exact evC_sound hm (none_ok P) 1 0 noHd c3 4 0 [] _ _ hc3 hA (fun b h => h) (fun b h => absurd h (by omega)) k1 fun β' N' a' w' hw => post env' B' β' N' a' w' k2 hw

structure CloneParts where
  i0 : Nat
  i1 : Nat
  o0 : Oper
  o1 : Oper
  o2 : Oper
  i2 : Nat
  o3 : Oper
  c3 : Code

def cloneParts : Code → Option CloneParts
  | .seq (.region i0 ops0 false) (.seq (.seq (.region i1 ops1 false) (.cond (.tmp 4) (.seq (.region i2 ops2 false) .ret) .skip)) c3) => match ops0.toList, ops1.toList, ops2.toList with
    | [o0], [o1, o2], [o3] => some ⟨i0, i1, o0, o1, o2, i2, o3, c3⟩
    | _, _, _ => none
  | _ => none

theorem cloneParts_spec {c : Code} {p : CloneParts} (h : cloneParts c = some p) : c = .seq (.region p.i0 #[p.o0] false) (.seq (.seq (.region p.i1 #[p.o1, p.o2] false) (.cond (.tmp 4) (.seq (.region p.i2 #[p.o3] false) .ret) .skip)) p.c3) := by
  unfold cloneParts at h
  split at h
  · rename_i i0 ops0 i1 ops1 i2 ops2 c3
    split at h
    · rename_i o0 o1 o2 o3 e0 e1 e2
      simp only [Option.some.injEq] at h
      subst h
      have h0 : ops0 = #[o0] := Array.ext' (by simpa using e0)
      have h1 : ops1 = #[o1, o2] := Array.ext' (by simpa using e1)
      have h2 : ops2 = #[o3] := Array.ext' (by simpa using e2)
      rw [h0, h1, h2]
    · cases h
  · cases h

theorem clone_at (hm : P.follows .mixedOrders = true) {f : FuncId} {fn : Func} (T T2 e : TypeId) (ty : Ty) (bytes : Nat) (hf : P.funcs[f]? = some fn) (hsome : (fn.body.bind cloneParts).isSome = true) (hres : fn.results = #[.tmp 2]) (hn : fn.ntmps = 8) (hname : (fn.name == "runtime.NumGoroutine") = false)
    (h01 : ((fn.body.bind cloneParts).get hsome).o0.op = .assign (.const (.slice none 0 0))) (h02 : ((fn.body.bind cloneParts).get hsome).o0.dst = some 2) (h03 : ((fn.body.bind cloneParts).get hsome).o0.guard = none)
    (h11 : ((fn.body.bind cloneParts).get hsome).o1.op = .move (.tmp 0)) (h12 : ((fn.body.bind cloneParts).get hsome).o1.dst = some 3) (h13 : ((fn.body.bind cloneParts).get hsome).o1.guard = none)
    (h21 : ((fn.body.bind cloneParts).get hsome).o2.op = .binOp .eql T (.tmp 3) (.const (.slice none 0 0)) T2) (h22 : ((fn.body.bind cloneParts).get hsome).o2.dst = some 4) (h23 : ((fn.body.bind cloneParts).get hsome).o2.guard = none)
    (h31 : ((fn.body.bind cloneParts).get hsome).o3.op = .assign (.const (.slice none 0 0))) (h32 : ((fn.body.bind cloneParts).get hsome).o3.dst = some 2) (h33 : ((fn.body.bind cloneParts).get hsome).o3.guard = none)
    (hT : P.underlying T = some (.slice e)) (hty : Nat.ble 1 ty.size = true) (hc3 : (compC P 4 ((fn.body.bind cloneParts).get hsome).c3 0 []).map (·.1) = some (cloneC3 ty bytes)) : CallAt P f (plainS (cloneG ty bytes)) := by
  have hp : fn.body.bind cloneParts = some ((fn.body.bind cloneParts).get hsome) := (Option.some_get hsome).symm
  generalize (fn.body.bind cloneParts).get hsome = p at *
  cases hb : fn.body with
  | none => rw [hb] at hp; cases hp
  | some c =>
    rw [hb] at hp
    have := cloneParts_spec (c := c) hp
    obtain ⟨⟨a3, l3⟩, hc3, e3⟩ := Option.map_eq_some_iff.1 hc3
    simp only at e3
    subst e3
    exact plainS_at (clone_plain hm hf (by rw [hb, this]) hres hn hname ⟨h01, h02, h03⟩ ⟨h31, h32, h33⟩ ⟨h11, h12, h13⟩ ⟨h21, h22, h23⟩ hT (Nat.le_of_ble_eq_true hty) hc3)

end
end Go.Ev
namespace Go.Ev
set_option linter.unusedVariables false
set_option linter.unusedSimpArgs false
set_option linter.unusedSectionVars false
variable [Ctx]
open Go.RowKit (Below)

theorem Fr.ofBelow {w w' : World} (h : Below w.heap.size w w') : Fr (fun _ => False) w (fun _ => False) w' :=
  ⟨h.os, h.tape, h.output, h.size, fun c hc _ => ⟨fun h => h, h.block c hc⟩, fun c arr e fz ha => ⟨arr, fz, by rw [h.block c (heap_lt ha)]; exact ha, rfl⟩⟩

theorem VRs.str {X : Blocks} {β : Map} {N : Nat → Prop} {w : World} {l : List UInt8} {v : Value} (h : VR X β N w (.d (.str l)) v) : v = .string ⟨l.toArray⟩ := by
  obtain ⟨s, rfl, hs⟩ := VR.d_iff.1 h
  subst hs
  rfl

theorem vr_str {X : Blocks} {β : Map} {N : Nat → Prop} {w : World} (l : List UInt8) : VR X β N w (.d (.str l)) (.string ⟨l.toArray⟩) := VR.d_iff.2 ⟨_, rfl, rfl⟩

section
variable {P : Program} [TagOK P]

def str2G (ok : List UInt8 → List UInt8 → Bool) (g : List UInt8 → List UInt8 → AV) : List D → M AV
  | [.str s, .str c] => .chk (ok s c) (.ret (g s c))
  | _ => .fail

theorem str2_at {f : FuncId} {fn : Func} {ok : List UInt8 → List UInt8 → Bool} {g : List UInt8 → List UInt8 → AV} (hf : P.funcs[f]? = some fn) (hb : fn.body.isNone = false) (hn : (fn.name == "runtime.NumGoroutine") = false)
    (h : ∀ (s c : List UInt8) (X : Blocks) (w : World), ok s c = true → (Ctx.inv w ∧ ∀ c, Ctx.tab c → c < w.heap.size) → Calls P f #[.string ⟨s.toArray⟩, .string ⟨c.toArray⟩] w fun e w' => ∃ v, e = .returned v ∧ VR X (fun _ => none) (fun _ => False) w' (g s c) v ∧ Below w.heap.size w w') : CallAt P f (plainV (str2G ok g)) := by
  refine plainV_at fun ds r hr => ⟨⟨fn, hf, hb, hn⟩, fun X w vs hX hI hv => ?_⟩
  unfold str2G at hr
  split at hr
  · rename_i s c
    obtain ⟨h1, h2⟩ := (M.run_chk _ _ _).1 hr
    simp only [M.run, Option.some.injEq] at h2
    subst h2
    obtain ⟨v, u, rfl, hv1, hv2⟩ := VRs.two hv
    rw [VRs.str hv1, VRs.str hv2]
    exact (h s c X w h1 hI).mono fun e w' ⟨v, h1, h2, h3⟩ => ⟨v, h1, h2, Fr.ofBelow h3⟩
  · simp [M.run] at hr

def asciiB (c : List UInt8) : Bool := c.all fun b => decide (b.toNat < 128)

theorem ascii_of {c : List UInt8} (h : asciiB c = true) : ∀ (j : Nat) b, c[j]? = some b → b.toNat < 128 :=
  fun _ b hb => of_decide_eq_true (List.all_eq_true.1 h b (List.mem_of_getElem? hb))

def trimG : List D → M AV := str2G (fun s c => decide (s.length ≤ 9223372036854775807) && decide (c.length < 4294967281) && asciiB c) fun s c => .d (.str (Lib.trimS s c))
def trimLeftG : List D → M AV := str2G (fun s c => decide (c.length < 4294967281) && asciiB c) fun s c => .d (.str (Lib.trimLeftS s c))
def compareG : List D → M AV := str2G (fun _ _ => true) fun s c => .d (.int .i64 (Lib.compareBytes s c))

theorem trim_at {f : FuncId} {fn : Func} (hf : P.funcs[f]? = some fn) (hb : fn.body.isNone = false) (hn : (fn.name == "runtime.NumGoroutine") = false)
    (h : ∀ (s cutset : ByteArray) (w : World), s.size ≤ 9223372036854775807 → cutset.size < 4294967281 → (∀ (j : Nat) b, cutset.data.toList[j]? = some b → b.toNat < 128) →
      Calls P f #[.string s, .string cutset] w fun e w' => e = .returned (.string ⟨(Lib.trimS s.data.toList cutset.data.toList).toArray⟩) ∧ Below w.heap.size w w') : CallAt P f (plainV trimG) := by
  refine str2_at hf hb hn fun s c X w hok _ => ?_
  simp only [Bool.and_eq_true, decide_eq_true_eq] at hok
  refine (h ⟨s.toArray⟩ ⟨c.toArray⟩ w (by simpa [ByteArray.size] using hok.1.1) (by simpa [ByteArray.size] using hok.1.2) (by simpa using ascii_of hok.2)).mono ?_
  rintro e w' ⟨rfl, hB⟩
  exact ⟨_, rfl, by simpa using vr_str _, hB⟩

theorem trimLeft_at {f : FuncId} {fn : Func} (hf : P.funcs[f]? = some fn) (hb : fn.body.isNone = false) (hn : (fn.name == "runtime.NumGoroutine") = false)
    (h : ∀ (s cutset : ByteArray) (w : World), cutset.size < 4294967281 → (∀ (j : Nat) b, cutset.data.toList[j]? = some b → b.toNat < 128) →
      Calls P f #[.string s, .string cutset] w fun e w' => e = .returned (.string ⟨(Lib.trimLeftS s.data.toList cutset.data.toList).toArray⟩) ∧ Below w.heap.size w w') : CallAt P f (plainV trimLeftG) := by
  refine str2_at hf hb hn fun s c X w hok _ => ?_
  simp only [Bool.and_eq_true, decide_eq_true_eq] at hok
  refine (h ⟨s.toArray⟩ ⟨c.toArray⟩ w (by simpa [ByteArray.size] using hok.1) (by simpa using ascii_of hok.2)).mono ?_
  rintro e w' ⟨rfl, hB⟩
  exact ⟨_, rfl, by simpa using vr_str _, hB⟩

theorem compare_at {f : FuncId} {fn : Func} (hf : P.funcs[f]? = some fn) (hb : fn.body.isNone = false) (hn : (fn.name == "runtime.NumGoroutine") = false)
    (h : ∀ (a b : ByteArray) (w : World), Calls P f #[.string a, .string b] w fun e w' => e = .returned (.int .i64 (Lib.compareBytes a.data.toList b.data.toList)) ∧ w' = w) : CallAt P f (plainV compareG) := by
  refine str2_at hf hb hn fun s c X w hok _ => ?_
  refine (h ⟨s.toArray⟩ ⟨c.toArray⟩ w).mono ?_
  rintro e w' ⟨rfl, rfl⟩
  exact ⟨_, rfl, VR.d_iff.2 rfl, Below.refl _ _⟩

def joinG : List D → M AV
  | [.nils, .str _] => .ret (.d (.str []))
  | [.sl .str l, .str sep] => .chk (decide (l.length ≤ 140737488355328) && decide ((Lib.join l sep).length ≤ 140737488355328)) (.ret (.d (.str (Lib.join l sep))))
  | _ => .fail

theorem join_at {f : FuncId} {fn : Func} (hf : P.funcs[f]? = some fn) (hb : fn.body.isNone = false) (hn : (fn.name == "runtime.NumGoroutine") = false)
    (h0 : ∀ (a : Option Addr) (c : Nat) (sep : ByteArray) (w : World), Calls P f #[.slice a 0 c, .string sep] w fun e w' => e = .returned (.string ⟨#[]⟩) ∧ w' = w)
    (h : ∀ (bk o c : Nat) (xs : List ByteArray) (sep : ByteArray) (w : World), (∀ (j : Nat) x, xs[j]? = some x → w.cell? ⟨bk, o + j, none⟩ = some (.string x)) → bk < w.heap.size → xs.length ≤ 140737488355328 → xs.length ≤ c → (Lib.join (xs.map (·.data.toList)) sep.data.toList).length ≤ 140737488355328 →
      Calls P f #[.slice (some ⟨bk, o, none⟩) xs.length c, .string sep] w fun e w' => e = .returned (.string ⟨(Lib.join (xs.map (·.data.toList)) sep.data.toList).toArray⟩) ∧ Below w.heap.size w w') : CallAt P f (plainV joinG) := by
  refine plainV_at fun ds r hr => ⟨⟨fn, hf, hb, hn⟩, fun X w vs hX hI hv => ?_⟩
  unfold joinG at hr
  split at hr
  · rename_i sep
    simp only [M.run, Option.some.injEq] at hr
    subst hr
    obtain ⟨v, u, rfl, hv1, hv2⟩ := VRs.two hv
    rw [VRs.str hv2]
    have : v = .slice none 0 0 := VR.d_iff.1 hv1
    subst this
    refine (h0 _ _ _ w).mono ?_
    rintro e w' ⟨rfl, rfl⟩
    exact ⟨_, rfl, vr_str [], Fr.refl _ _⟩
  · rename_i l sep
    obtain ⟨h1, h2⟩ := (M.run_chk _ _ _).1 hr
    simp only [M.run, Option.some.injEq] at h2
    subst h2
    simp only [Bool.and_eq_true, decide_eq_true_eq] at h1
    obtain ⟨v, u, rfl, hv1, hv2⟩ := VRs.two hv
    rw [VRs.str hv2]
    have hq : RD X w (.sl .str) l (fun _ => some v) := VR.d_iff.1 hv1
    obtain ⟨v', e', hh⟩ := RD.slice hq
    simp only [Option.some.injEq] at e'
    subst e'
    rcases hh with ⟨_, _, rfl, _, rfl⟩ | ⟨c, off, cap, rfl, hcap, hlt, _, hcells⟩
    · refine (h0 _ _ _ w).mono ?_
      rintro e w' ⟨rfl, rfl⟩
      exact ⟨_, rfl, vr_str _, Fr.refl _ _⟩
    · have hxs : ((l.map fun (x : List UInt8) => (⟨x.toArray⟩ : ByteArray)).map (·.data.toList)) = l := by
        rw [List.map_map]
        exact List.map_id _
      have := h c off cap (l.map fun (x : List UInt8) => (⟨x.toArray⟩ : ByteArray)) ⟨sep.toArray⟩ w (by
        intro j x hj
        rw [List.getElem?_map] at hj
        obtain ⟨y, hy, rfl⟩ := Option.map_eq_some_iff.1 hj
        obtain ⟨hjl, rfl⟩ := List.getElem?_eq_some_iff.1 hy
        have hRD := hcells j hjl
        generalize hg : (fun q => w.cell? ⟨c, off + j * Ty.str.size + q, none⟩) = g at hRD
        generalize hx : l[j] = y at hRD
        cases hRD with
        | str h =>
          rw [← hg] at h
          simpa [Ty.size] using h) hlt (by simpa using h1.1) (by simpa using hcap) (by rw [hxs]; exact h1.2)
      rw [hxs, List.length_map] at this
      refine this.mono ?_
      rintro e w' ⟨rfl, hB⟩
      exact ⟨_, rfl, vr_str _, Fr.ofBelow hB⟩
  · simp [M.run] at hr

def copyCheckS (T : TypeId) : List AV → Boxes → M (AV × Boxes) := fun as B => match as with
  | [.ptr b 0] => match look B b with
    | .cells [x, y] => match x with
      | .snil b' T' => .ifb (b' == b && T' == T && Nat.blt b B.length) (.ret (.tup [], B.set b (.cells [.ptr b 0, y])))
      | .ptr b' 0 => .ifb (b' == b) (.ret (.tup [], B))
      | _ => .fail
    | _ => .fail
  | _ => .fail

theorem look_set {B : Boxes} {b : Nat} {x : Box} (h : b < B.length) : look (B.set b x) = updL (look B) b x := by
  funext q
  unfold look updL
  by_cases e : q = b
  · subst e
    simp [List.getD_eq_getElem?_getD, h]
  · simp [List.getD_eq_getElem?_getD, List.getElem?_set, Ne.symm e, e]

theorem copyCheck_at {f : FuncId} {fn : Func} {T : TypeId} (hf : P.funcs[f]? = some fn) (hb : fn.body.isNone = false) (hn : (fn.name == "runtime.NumGoroutine") = false)
    (h0 : ∀ (b : Nat) (w : World), w.cell? ⟨b, 0, none⟩ = some (.pointer none) → w.shape? b = some (T, 2) → w.frozen? ⟨b, 0, none⟩ = false → Calls P f #[.pointer (some ⟨b, 0, none⟩)] w fun e w' => e = .returned (.tuple #[]) ∧ w' = w.setCell ⟨b, 0, none⟩ (.pointer (some ⟨b, 0, none⟩)))
    (h1 : ∀ (b : Nat) (w : World), w.cell? ⟨b, 0, none⟩ = some (.pointer (some ⟨b, 0, none⟩)) → Calls P f #[.pointer (some ⟨b, 0, none⟩)] w fun e w' => e = .returned (.tuple #[]) ∧ w' = w) : CallAt P f (copyCheckS T) := by
  intro as B r B' hr
  have hv0 : ∀ {Y : Blocks} {β : Map} {N : Nat → Prop} {w : World}, VR Y β N w (.tup []) (.tuple #[]) := VR.tup_iff.2 ⟨#[], rfl, by unfold VRs; trivial⟩
  unfold copyCheckS at hr
  split at hr
  · rename_i b
    split at hr
    · rename_i x y hL
      split at hr
      · rename_i b' T'
        obtain ⟨hc, hr2⟩ := (M.run_ifb _ _ _).1 hr
        clear hr
        simp only [Bool.and_eq_true, beq_iff_eq, Nat.blt_eq] at hc
        obtain ⟨⟨rfl, rfl⟩, hlt⟩ := hc
        have hr := hr2
        simp only [M.run, Option.some.injEq, Prod.mk.injEq] at hr
        obtain ⟨rfl, rfl⟩ := hr
        refine ⟨⟨fn, hf, hb, hn⟩, by simp, fun X β w vs hS hvs => ?_⟩
        obtain ⟨v, rfl, hv⟩ := VRs.one hvs
        obtain ⟨hN, c, hβ, rfl⟩ := VR.ptr_iff.1 hv
        have hbx := hS.box b'
        rw [hL] at hbx
        obtain ⟨c', arr, e, g1, g2, g3, g4⟩ := hbx
        rw [hβ] at g1; cases g1
        have hsz : arr.size = 2 := by simpa using g3
        have h00 : arr[0]? = some arr[0] := Array.getElem?_eq_getElem (by omega)
        have h01 : arr[1]? = some arr[1] := Array.getElem?_eq_getElem (by omega)
        obtain ⟨_, hp, c2, arr2, fz2, k1, k2⟩ := VR.snil_iff.1 (g4 0 _ _ rfl h00).1
        rw [hβ] at k1; cases k1
        rw [g2] at k2; cases k2
        refine (h0 c w (by rw [cell_of_arr g2, h00, hp]) (by simp [World.shape?, g2, hsz]) (by simp [World.frozen?, g2])).mono ?_
        rintro e w' ⟨rfl, rfl⟩
        have hset : (w.setCell ⟨c, 0, none⟩ (.pointer (some ⟨c, 0, none⟩))).heap[c]? = some (.cells (arr.setIfInBounds 0 (.pointer (some ⟨c, 0, none⟩))) T' (0, 0)) := by
          simp [World.setCell, Array.getElem?_modify, g2]
        have hcells : ∀ {X' : Blocks}, Mv (All X β (look B)) β (· < B.length) w X' β (· < B.length) (w.setCell ⟨c, 0, none⟩ (.pointer (some ⟨c, 0, none⟩))) → ∀ (j : Nat) (a : AV) (v : Value), [AV.ptr b' 0, y][j]? = some a → (arr.setIfInBounds 0 (.pointer (some ⟨c, 0, none⟩)))[j]? = some v → VR X' β (· < B.length) (w.setCell ⟨c, 0, none⟩ (.pointer (some ⟨c, 0, none⟩))) a v ∧ v.oneCell' = true := by
          intro X' mv j a v ha hv'
          match j with
          | 0 =>
            simp only [List.getElem?_cons_zero, Option.some.injEq] at ha
            subst ha
            have : v = .pointer (some ⟨c, 0, none⟩) := by
              rw [Array.getElem?_setIfInBounds] at hv'
              simp [hsz] at hv'
              exact hv'.symm
            subst this
            exact ⟨VR.ptr_iff.2 ⟨hN, c, hβ, rfl⟩, rfl⟩
          | 1 =>
            simp only [List.getElem?_cons_succ, List.getElem?_cons_zero, Option.some.injEq] at ha
            subst ha
            have hv2 : arr[1]? = some v := by
              rw [Array.getElem?_setIfInBounds] at hv'
              simpa using hv'
            exact ⟨(g4 1 _ _ rfl hv2).1.move mv, (g4 1 _ _ rfl hv2).2⟩
          | j + 2 => simp at ha
        obtain ⟨p1, p2, p3⟩ := Step.put' (val := .tup []) (v := .tuple #[]) (x := .cells [.ptr b' 0, y]) (w' := w.setCell ⟨c, 0, none⟩ (.pointer (some ⟨c, 0, none⟩))) hS (by rw [hL]; rfl) rfl hβ g2 hset (by simp) (by simp [World.setCell]) rfl rfl rfl (fun k hk => Go.RowKit.Below.heap_setCell _ _ _ _ hk) fun mv => ⟨⟨c, _, _, hβ, hset, by simp [hsz], hcells mv⟩, hv0⟩
        refine ⟨_, β, rfl, ?_, ?_, ?_, fun b _ => rfl⟩
        · rw [look_set hlt, List.length_set]; exact p1
        · exact hv0
        · rw [look_set hlt]; exact p3
      · rename_i b'
        obtain ⟨hc, hr2⟩ := (M.run_ifb _ _ _).1 hr
        clear hr
        simp only [beq_iff_eq] at hc
        subst hc
        have hr := hr2
        simp only [M.run, Option.some.injEq, Prod.mk.injEq] at hr
        obtain ⟨rfl, rfl⟩ := hr
        refine ⟨⟨fn, hf, hb, hn⟩, Nat.le_refl _, fun X β w vs hS hvs => ?_⟩
        obtain ⟨v, rfl, hv⟩ := VRs.one hvs
        obtain ⟨hN, c, hβ, rfl⟩ := VR.ptr_iff.1 hv
        have hbx := hS.box b'
        rw [hL] at hbx
        obtain ⟨c', arr, e, g1, g2, g3, g4⟩ := hbx
        rw [hβ] at g1; cases g1
        have hsz : arr.size = 2 := by simpa using g3
        have h00 : arr[0]? = some arr[0] := Array.getElem?_eq_getElem (by omega)
        obtain ⟨_, c2, k1, k2⟩ := VR.ptr_iff.1 (g4 0 _ _ rfl h00).1
        rw [hβ] at k1; cases k1
        refine (h1 c w (by rw [cell_of_arr g2, h00, k2])).mono ?_
        rintro e w' ⟨rfl, rfl⟩
        exact ⟨_, β, rfl, hS, hv0, Fr.refl _ _, fun b _ => rfl⟩
      · simp [M.run] at hr
    · simp [M.run] at hr
  · simp [M.run] at hr

end
end Go.Ev
namespace Go.Ev
set_option linter.unusedVariables false
set_option linter.unusedSimpArgs false

theorem elemTy_lt {P : Program} {e : TypeId} (h : elemTy P e = some (.int .u8)) : e < P.types.size := by
  unfold elemTy at h
  split at h
  · split at h
    · rename_i hh
      cases h
      exact (hh.2.2 rfl).1
    · cases h
  · cases h

def byteOnly (P : Program) (u : TypeId) : Bool := (List.range P.types.size).all fun e => match elemTy P e with
  | some (.int .u8) => e == u
  | _ => true

theorem byteOnly_spec {P : Program} {u : TypeId} (h : byteOnly P u = true) : ∀ e, elemTy P e = some (.int .u8) → e = u := by
  intro e he
  unfold byteOnly at h
  have := List.all_eq_true.1 h e (List.mem_range.2 (elemTy_lt he))
  rw [he] at this
  simpa using this

theorem tagOK_of {P : Program} {u : TypeId} [c : Ctx] (hc : ∀ t e, Ctx.tag t e ↔ (t = .int .u8 → e = u)) (h : byteOnly P u = true) : TagOK P :=
  ⟨fun e t he => (hc t e).2 fun ht => by subst ht; exact byteOnly_spec h e he, fun e e' he ht => ((hc _ _).1 ht rfl).trans (byteOnly_spec h e he).symm⟩

end Go.Ev
namespace Go.Ev
set_option linter.unusedVariables false
set_option linter.unusedSimpArgs false
set_option linter.unusedSectionVars false
variable [Ctx]

def D.alike : D → D → Bool
  | .int k n, .int k' n' => k == k' && n == n'
  | .bool b, .bool b' => b == b'
  | .str l, .str l' => l == l'
  | .nils, .nils => true
  | _, _ => false

theorem D.alike_eq {a b : D} (h : D.alike a b = true) : a = b := by
  unfold D.alike at h
  split at h
  · simp only [Bool.and_eq_true, beq_iff_eq] at h
    rw [h.1, h.2]
  · simp only [beq_iff_eq] at h
    rw [h]
  · simp only [beq_iff_eq] at h
    rw [h]
  · rfl
  · cases h

def alikeL : List D → List D → Bool
  | [], [] => true
  | a :: as, b :: bs => D.alike a b && alikeL as bs
  | _, _ => false

theorem alikeL_eq : ∀ {a b : List D}, alikeL a b = true → a = b
  | [], [], _ => rfl
  | [], _ :: _, h => by simp [alikeL] at h
  | _ :: _, [], h => by simp [alikeL] at h
  | a :: as, b :: bs, h => by
    simp only [alikeL, Bool.and_eq_true] at h
    rw [D.alike_eq h.1, alikeL_eq h.2]

def memoG : List (List D × AV) → List D → M AV
  | [], _ => .fail
  | (as, r) :: rest, ds => cond (alikeL as ds) (.ret r) (memoG rest ds)

section
variable {P : Program} [TagOK P]

def Known (P : Program) (f : FuncId) (ds : List D) (r : AV) : Prop :=
  (∃ fn, P.funcs[f]? = some fn ∧ fn.body.isNone = false ∧ (fn.name == "runtime.NumGoroutine") = false) ∧
  ∀ (X : Blocks) (w : World) (vs : List Value), (∀ c, X c → c < w.heap.size) → (Ctx.inv w ∧ ∀ c, Ctx.tab c → c < w.heap.size) → VRs X (fun _ => none) (fun _ => False) w (ds.map .d) vs →
    Calls P f vs.toArray w fun e w' => ∃ v, e = .returned v ∧ VR X (fun _ => none) (fun _ => False) w' r v ∧ Fr (fun _ => False) w (fun _ => False) w'

theorem known (hm : P.follows .mixedOrders = true) {kinds : FuncId → Bool × Bool} {S : FuncId → Option (List AV → Boxes → M (AV × Boxes))} (hS : ∀ f s, S f = some s → CallAt P f s) {n : Nat} {f : FuncId} {ds : List D} {r : AV}
    (h : (evCall (fnsOf P kinds) S n f (ds.map .d) []).run = some (r, [])) : Known P f ds r := by
  obtain ⟨h1, _, h3⟩ := evCall_at hm kinds S hS n f (ds.map .d) [] _ _ h
  refine ⟨h1, fun X w vs hX hI hv => ?_⟩
  have hE := SimB.empty (X := X) (β := fun _ => none) (N := (· < ([] : Boxes).length)) hX hI
  have hv' : VRs (All X (fun _ => none) (look [])) (fun _ => none) (· < ([] : Boxes).length) w (ds.map .d) vs := by
    refine VRs.move ?_ _ _ hv
    exact ⟨Nat.le_refl _, fun c _ hc => ⟨fun h => h.elim hc own_empty, rfl⟩, fun c arr e fz h => ⟨arr, fz, h, rfl⟩, fun b hb => hb.elim, fun b hb => hb.elim⟩
  refine (h3 X (fun _ => none) w vs hE hv').mono ?_
  rintro e w' ⟨v, β', rfl, k1, k2, k3, _⟩
  refine ⟨v, rfl, k2.move ⟨Nat.le_refl _, fun c _ hc => ⟨fun hx => hc (.inl hx), rfl⟩, fun c arr e fz h => ⟨arr, fz, h, rfl⟩, fun b hb => absurd hb (Nat.not_lt_zero b), fun b hb => absurd hb (Nat.not_lt_zero b)⟩, ⟨k3.os, k3.tape, k3.output, k3.size, fun c hc _ => ⟨fun h => h, (k3.blk c hc fun h => own_empty h).2⟩, k3.shape⟩⟩

theorem memo_at {f : FuncId} {l : List (List D × AV)} (h : ∀ p, p ∈ l → Known P f p.1 p.2) : CallAt P f (plainV (memoG l)) := by
  refine plainV_at fun ds r hr => ?_
  induction l with
  | nil => simp [memoG, M.run] at hr
  | cons p l ih =>
    obtain ⟨as, r0⟩ := p
    simp only [memoG] at hr
    cases he : alikeL as ds with
    | true =>
      rw [he] at hr
      simp only [cond_true, M.run, Option.some.injEq] at hr
      subst hr
      have := alikeL_eq he
      subst this
      exact h _ (List.mem_cons_self ..)
    | false =>
      rw [he] at hr
      exact ih (fun p hp => h p (List.mem_cons_of_mem _ hp)) hr

end
end Go.Ev
namespace Go.Ev
set_option linter.unusedVariables false
set_option linter.unusedSimpArgs false
set_option linter.unusedSectionVars false

abbrev LoopG := Env → Boxes → M (AEx × Env × Boxes)

def loopsOf : AC → List (Nat × AC)
  | .seq a b => loopsOf a ++ loopsOf b
  | .cnd _ a b => loopsOf a ++ loopsOf b
  | .block _ a => loopsOf a
  | .loop k a => (k, a) :: loopsOf a
  | _ => []

def evW (LS : Nat → Option LoopG) (byref : FuncId → Bool) (call : Caller) (n k0 : Nat) (hd : Nat → Hd) : AC → Env → Boxes → M (AEx × Env × Boxes)
  | .skip, env, B => .ret (.normal, env, B)
  | .region ops none, env, B => (evOps byref call ops env B).bind fun (env', B') => .ret (.normal, env', B')
  | .region ops (some after), env, B => (evDraw byref call after ops env B).bind fun (env', B') => .ret (.normal, env', B')
  | .seq a b, env, B => (evW LS byref call n k0 hd a env B).bind fun (e, env', B') => match e with
    | .normal => evW LS byref call n k0 hd b env' B'
    | e => .ret (e, env', B')
  | .cnd c a b, env, B => match rdA env c with
    | .d (.bool t) => .br t fun p => cond p (evW LS byref call n k0 hd a env B) (evW LS byref call n k0 hd b env B)
    | _ => .fail
  | .block id a, env, B => (evW LS byref call n k0 hd a env B).bind fun (e, env', B') => match e with
    | .exit id' => .ret (if id' = id then .normal else .exit id', env', B')
    | e => .ret (e, env', B')
  | .loop keep a, env, B => match LS keep with
    | some g => g env B
    | none => loopN (hd keep) k0 keep (evW LS byref call n k0 hd a) n env B
  | .exit id, env, B => .ret (.exit id, env, B)
  | .ret, env, B => .ret (.ret, env, B)
  | .bad, _, _ => .fail

theorem run_bindS {α β : Type} {m : M α} {f : α → M β} {r : β} (h : (m.bind f).run = some r) : ∃ a, m.run = some a ∧ (f a).run = some r := by
  rw [M.run_bind] at h
  exact Option.bind_eq_some_iff.1 h

theorem loopN_mono {h0 : Hd} {k0 keep : Nat} {f g : LoopG} (h : ∀ env B r, (f env B).run = some r → (g env B).run = some r) : ∀ n env B r, (loopN h0 k0 keep f n env B).run = some r → (loopN h0 k0 keep g n env B).run = some r
  | 0, env, B, r, hr => by simp [loopN, M.run] at hr
  | n + 1, env, B, r, hr => by
    simp only [loopN] at hr ⊢
    obtain ⟨⟨e1, B1⟩, h1, h2⟩ := run_bindS hr
    obtain ⟨⟨e, e2, B2⟩, h3, h4⟩ := run_bindS h2
    rw [M.run_bind, h1]
    simp only [Option.bind_some]
    rw [M.run_bind, h _ _ _ h3]
    simp only [Option.bind_some]
    cases e with
    | normal => exact loopN_mono h n _ _ _ h4
    | exit id => exact h4
    | ret => exact h4

def LoopOK (byref : FuncId → Bool) (call : Caller) (n k0 : Nat) (hd : Nat → Hd) (keep : Nat) (body : AC) (g : LoopG) : Prop :=
  ∀ env B r, (g env B).run = some r → (loopN (hd keep) k0 keep (evC byref call n k0 hd body) n env B).run = some r

theorem evW_ok (LS : Nat → Option LoopG) (byref : FuncId → Bool) (call : Caller) (n k0 : Nat) (hd : Nat → Hd) : ∀ (c : AC), (∀ p, p ∈ loopsOf c → ∀ g, LS p.1 = some g → LoopOK byref call n k0 hd p.1 p.2 g) →
    ∀ env B r, (evW LS byref call n k0 hd c env B).run = some r → (evC byref call n k0 hd c env B).run = some r
  | .skip, _, env, B, r, hr => hr
  | .region ops none, _, env, B, r, hr => hr
  | .region ops (some after), _, env, B, r, hr => hr
  | .seq a b, h, env, B, r, hr => by
    simp only [evW, evC] at hr ⊢
    obtain ⟨⟨e, e1, B1⟩, h1, h2⟩ := run_bindS hr
    rw [M.run_bind, evW_ok LS byref call n k0 hd a (fun p hp => h p (by simp [loopsOf, hp])) _ _ _ h1]
    simp only [Option.bind_some]
    cases e with
    | normal => exact evW_ok LS byref call n k0 hd b (fun p hp => h p (by simp [loopsOf, hp])) _ _ _ h2
    | exit id => exact h2
    | ret => exact h2
  | .cnd c a b, h, env, B, r, hr => by
    simp only [evW, evC] at hr ⊢
    split at hr
    · rename_i t ht
      simp only [M.run, ht] at hr ⊢
      cases t with
      | true => exact evW_ok LS byref call n k0 hd a (fun p hp => h p (by simp [loopsOf, hp])) _ _ _ hr
      | false => exact evW_ok LS byref call n k0 hd b (fun p hp => h p (by simp [loopsOf, hp])) _ _ _ hr
    · simp [M.run] at hr
  | .block id a, h, env, B, r, hr => by
    simp only [evW, evC] at hr ⊢
    obtain ⟨⟨e, e1, B1⟩, h1, h2⟩ := run_bindS hr
    rw [M.run_bind, evW_ok LS byref call n k0 hd a (fun p hp => h p (by simp [loopsOf, hp])) _ _ _ h1]
    exact h2
  | .loop keep a, h, env, B, r, hr => by
    simp only [evW, evC] at hr ⊢
    split at hr
    · rename_i g hg
      exact h (keep, a) (by simp [loopsOf]) g hg _ _ _ hr
    · exact loopN_mono (evW_ok LS byref call n k0 hd a (fun p hp => h p (by simp [loopsOf, hp]))) n _ _ _ hr
  | .exit id, _, env, B, r, hr => hr
  | .ret, _, env, B, r, hr => hr
  | .bad, _, env, B, r, hr => by simp [evW, M.run] at hr

def loopBody (keep : Nat) (c : AC) : AC := ((loopsOf c).find? fun p => p.1 == keep).elim .bad (·.2)

def distinctLoops (c : AC) : Bool := nodupB ((loopsOf c).map (·.1))

theorem find_of_nodup : ∀ {l : List (Nat × AC)}, nodupB (l.map (·.1)) = true → ∀ p, p ∈ l → l.find? (fun q => q.1 == p.1) = some p
  | [], _, p, hp => by cases hp
  | q :: l, h, p, hp => by
    simp only [List.map_cons, nodupB, Bool.and_eq_true, Bool.not_eq_true', List.contains_eq_mem] at h
    rcases List.mem_cons.1 hp with rfl | hp
    · simp
    · have hne : q.1 ≠ p.1 := fun e => by
        have := of_decide_eq_false h.1
        exact this (by rw [e]; exact List.mem_map_of_mem hp)
      rw [List.find?_cons_of_neg (by simpa using hne)]
      exact find_of_nodup h.2 p hp

theorem loopBody_eq {c : AC} (hd : distinctLoops c = true) {p : Nat × AC} (hp : p ∈ loopsOf c) : p.2 = loopBody p.1 c := by
  unfold loopBody
  rw [find_of_nodup hd p hp]
  rfl

def runW (LS : Nat → Option LoopG) (byref : FuncId → Bool) (call : Caller) (n : Nat) (fn : AFn) (args : List AV) (B : Boxes) : M (AV × Boxes) :=
  (evW LS byref call n B.length fn.hd fn.body (args ++ List.replicate (fn.ntmps - args.length) (.tup [])) B).bind fun (e, env, B') => match e with
    | .exit _ => .fail
    | _ => finish B.length fn.plain fn.results env B'

theorem runW_ok {LS : Nat → Option LoopG} {F : FuncId → Option AFn} {S : FuncId → Option (List AV → Boxes → M (AV × Boxes))} {n : Nat} {f : FuncId} {fn : AFn} {as : List AV} {B B' : Boxes} {r : AV} (hF : F f = some fn) (hS : S f = none)
    (hd : distinctLoops fn.body = true) (h : ∀ keep g, LS keep = some g → LoopOK (fun g => match F g with | some h => h.byref | none => false) (evCall F S n) n B.length fn.hd keep (loopBody keep fn.body) g)
    (hr : (runW LS (fun g => match F g with | some h => h.byref | none => false) (evCall F S n) n fn as B).run = some (r, B')) : (evCall F S (n + 1) f as B).run = some (r, B') := by
  simp only [evCall, hS, hF]
  obtain ⟨⟨e, e1, B1⟩, h1, h2⟩ := run_bindS hr
  have h1' := evW_ok LS _ _ n B.length fn.hd fn.body (fun p hp g hg => by rw [loopBody_eq hd hp]; exact h p.1 g hg) _ _ _ h1
  rw [M.run_bind]
  refine Eq.trans (congrArg (fun o => Option.bind o _) (show _ = some (e, e1, B1) from h1')) ?_
  exact h2

def turn (h : Hd) (k0 keep : Nat) (f : LoopG) (env : Env) (B : Boxes) : M (AEx × Env × Boxes) :=
  (f env B).bind fun (e, env', B') => match e with
    | .normal => (head h k0 keep env' B').bind fun (env2, B2) => .ret (.normal, env2, B2)
    | e => .ret (e, env', B')

def turns (h : Hd) (k0 keep : Nat) (f : LoopG) : Nat → Env → Boxes → M (AEx × Env × Boxes)
  | 0, _, _ => .fail
  | n + 1, env, B => (turn h k0 keep f env B).bind fun (e, env', B') => match e with
    | .normal => turns h k0 keep f n env' B'
    | e => .ret (e, env', B')

theorem loopN_turns {h0 : Hd} {k0 keep : Nat} {f : LoopG} : ∀ (n : Nat) (env : Env) (B : Boxes) (env1 : Env) (B1 : Boxes) (r : AEx × Env × Boxes), (head h0 k0 keep env B).run = some (env1, B1) → (turns h0 k0 keep f n env1 B1).run = some r → (loopN h0 k0 keep f n env B).run = some r
  | 0, env, B, env1, B1, r, _, hr => by simp [turns, M.run] at hr
  | n + 1, env, B, env1, B1, r, hc, hr => by
    simp only [loopN]
    rw [M.run_bind, hc]
    simp only [Option.bind_some]
    simp only [turns] at hr
    obtain ⟨⟨e, e2, B2⟩, h1, h2⟩ := run_bindS hr
    unfold turn at h1
    obtain ⟨⟨e', e3, B3⟩, h3, h4⟩ := run_bindS h1
    rw [M.run_bind, h3]
    simp only [Option.bind_some]
    cases e' with
    | normal =>
      simp only at h4
      obtain ⟨⟨e4, B4⟩, h5, h6⟩ := run_bindS h4
      simp only [M.run, Option.some.injEq, Prod.mk.injEq] at h6
      obtain ⟨rfl, rfl, rfl⟩ := h6
      exact loopN_turns n _ _ _ _ _ h5 h2
    | exit id =>
      simp only [M.run, Option.some.injEq, Prod.mk.injEq] at h4
      obtain ⟨rfl, rfl, rfl⟩ := h4
      exact h2
    | ret =>
      simp only [M.run, Option.some.injEq, Prod.mk.injEq] at h4
      obtain ⟨rfl, rfl, rfl⟩ := h4
      exact h2

theorem turns_step {h0 : Hd} {k0 keep : Nat} {f : LoopG} {n : Nat} {env env' : Env} {B B' : Boxes} {r : AEx × Env × Boxes} (h : (turn h0 k0 keep f env B).run = some (.normal, env', B')) (hr : (turns h0 k0 keep f n env' B').run = some r) : (turns h0 k0 keep f (n + 1) env B).run = some r := by
  simp only [turns]
  rw [M.run_bind, h]
  exact hr

theorem turns_last {h0 : Hd} {k0 keep : Nat} {f : LoopG} {n : Nat} {env env' : Env} {B B' : Boxes} {e : AEx} (he : e ≠ .normal) (h : (turn h0 k0 keep f env B).run = some (e, env', B')) : (turns h0 k0 keep f (n + 1) env B).run = some (e, env', B') := by
  simp only [turns]
  rw [M.run_bind, h]
  simp only [Option.bind_some]
  cases e with
  | normal => exact absurd rfl he
  | exit id => rfl
  | ret => rfl

variable [Ctx]
section
variable {P : Program} [TagOK P]

theorem args_law (hm : P.follows .mixedOrders = true) {kinds : FuncId → Bool × Bool} {S : FuncId → Option (List AV → Boxes → M (AV × Boxes))} (hS : ∀ f s, S f = some s → CallAt P f s) {n : Nat} {f : FuncId} {ds : List D} {b : Bool}
    (h : (evCall (fnsOf P kinds) S n f (ds.map .d) []).run = some (.d (.bool b), [])) (W : World) (hI : Ctx.inv W ∧ ∀ c, Ctx.tab c → c < W.heap.size) (vs : List Value) (hv : VRs (fun _ => False) (fun _ => none) (fun _ => False) W (ds.map .d) vs) :
    Calls P f vs.toArray W fun e w' => e = .returned (.bool b) ∧ RowKit.Below W.heap.size W w' := by
  obtain ⟨_, h3⟩ := known hm hS h
  refine (h3 (fun _ => False) W vs (fun c h => h.elim) hI hv).mono ?_
  rintro e w' ⟨v, rfl, k2, k3⟩
  have : v = .bool b := VR.d_iff.1 k2
  subst this
  exact ⟨rfl, k3.os, k3.tape, k3.output, k3.size, fun k hk => (k3.blk k hk fun h => h).2⟩

theorem vrs_ints {X : Blocks} {β : Map} {N : Nat → Prop} {w : World} : ∀ (l : List (IntKind × Int)), VRs X β N w ((l.map fun p => D.int p.1 p.2).map .d) (l.map fun p => Value.int p.1 p.2)
  | [] => by unfold VRs; trivial
  | p :: l => by
    have := vrs_ints (X := X) (β := β) (N := N) (w := w) l
    simp only [List.map_cons]
    unfold VRs
    exact ⟨VR.d_iff.2 rfl, this⟩

end
end Go.Ev
namespace Go.Ev
set_option linter.unusedVariables false
set_option linter.unusedSimpArgs false
set_option linter.unusedSectionVars false

abbrev Vis := List (Nat × Env × Boxes)

def offBlock (id : Nat) : AEx → AEx
  | .exit id' => if id' = id then .normal else .exit id'
  | e => e

def evT (LS : Nat → Option (AEx × Env × Boxes)) (byref : FuncId → Bool) (call : Caller) (n k0 : Nat) (hd : Nat → Hd) : AC → Env → Boxes → M ((AEx × Env × Boxes) × Vis)
  | .skip, env, B => .ret ((.normal, env, B), [])
  | .region ops none, env, B => (evOps byref call ops env B).bind fun (env', B') => .ret ((.normal, env', B'), [])
  | .region ops (some after), env, B => (evDraw byref call after ops env B).bind fun (env', B') => .ret ((.normal, env', B'), [])
  | .seq a b, env, B => (evT LS byref call n k0 hd a env B).bind fun (r, v) => match r with
    | (.normal, env', B') => (evT LS byref call n k0 hd b env' B').bind fun (r2, v2) => .ret (r2, v ++ v2)
    | r => .ret (r, v)
  | .cnd c a b, env, B => match rdA env c with
    | .d (.bool t) => .br t fun p => cond p (evT LS byref call n k0 hd a env B) (evT LS byref call n k0 hd b env B)
    | _ => .fail
  | .block id a, env, B => (evT LS byref call n k0 hd a env B).bind fun (r, v) => .ret ((offBlock id r.1, r.2.1, r.2.2), v)
  | .loop keep a, env, B => match LS keep with
    | some r => (head (hd keep) k0 keep env B).bind fun (env1, B1) => .ret (r, [(keep, env1, B1)])
    | none => .fail
  | .exit id, env, B => .ret ((.exit id, env, B), [])
  | .ret, env, B => .ret ((.ret, env, B), [])
  | .bad, _, _ => .fail

theorem evT_ok (LS : Nat → Option (AEx × Env × Boxes)) (byref : FuncId → Bool) (call : Caller) (n k0 : Nat) (hd : Nat → Hd) : ∀ (c : AC) (env : Env) (B : Boxes) (r : AEx × Env × Boxes) (vis : Vis),
    (∀ keep body env1 B1 q, (keep, body) ∈ loopsOf c → (keep, env1, B1) ∈ vis → LS keep = some q → (turns (hd keep) k0 keep (evC byref call n k0 hd body) n env1 B1).run = some q) →
    (evT LS byref call n k0 hd c env B).run = some (r, vis) → (evC byref call n k0 hd c env B).run = some r
  | .skip, env, B, r, vis, h, hr => by
    simp only [evT, M.run, Option.some.injEq, Prod.mk.injEq] at hr
    simp only [evC, M.run, hr.1]
  | .region ops none, env, B, r, vis, h, hr => by
    simp only [evT] at hr
    obtain ⟨x, h1, h2⟩ := run_bindS hr
    simp only [M.run, Option.some.injEq, Prod.mk.injEq] at h2
    simp only [evC]
    rw [M.run_bind, h1]
    simp only [Option.bind_some, M.run, h2.1]
  | .region ops (some after), env, B, r, vis, h, hr => by
    simp only [evT] at hr
    obtain ⟨x, h1, h2⟩ := run_bindS hr
    simp only [M.run, Option.some.injEq, Prod.mk.injEq] at h2
    simp only [evC]
    rw [M.run_bind, h1]
    simp only [Option.bind_some, M.run, h2.1]
  | .seq a b, env, B, r, vis, h, hr => by
    simp only [evT] at hr
    obtain ⟨⟨⟨e, env', B'⟩, v⟩, h1, h2⟩ := run_bindS hr
    simp only [evC]
    cases e with
    | normal =>
      simp only at h2
      obtain ⟨⟨r2, v2⟩, h3, h4⟩ := run_bindS h2
      simp only [M.run, Option.some.injEq, Prod.mk.injEq] at h4
      obtain ⟨rfl, rfl⟩ := h4
      rw [M.run_bind, evT_ok LS byref call n k0 hd a _ _ _ _ (fun keep body env1 B1 q g1 g2 g3 => h keep body env1 B1 q (by simp [loopsOf, g1]) (by simp [g2]) g3) h1]
      exact evT_ok LS byref call n k0 hd b _ _ _ _ (fun keep body env1 B1 q g1 g2 g3 => h keep body env1 B1 q (by simp [loopsOf, g1]) (by simp [g2]) g3) h3
    | exit id =>
      simp only [M.run, Option.some.injEq, Prod.mk.injEq] at h2
      obtain ⟨rfl, rfl⟩ := h2
      rw [M.run_bind, evT_ok LS byref call n k0 hd a _ _ _ _ (fun keep body env1 B1 q g1 g2 g3 => h keep body env1 B1 q (by simp [loopsOf, g1]) g2 g3) h1]
      rfl
    | ret =>
      simp only [M.run, Option.some.injEq, Prod.mk.injEq] at h2
      obtain ⟨rfl, rfl⟩ := h2
      rw [M.run_bind, evT_ok LS byref call n k0 hd a _ _ _ _ (fun keep body env1 B1 q g1 g2 g3 => h keep body env1 B1 q (by simp [loopsOf, g1]) g2 g3) h1]
      rfl
  | .cnd c a b, env, B, r, vis, h, hr => by
    simp only [evT, evC] at hr ⊢
    split at hr
    · rename_i t ht
      simp only [M.run, ht] at hr ⊢
      cases t with
      | true => exact evT_ok LS byref call n k0 hd a _ _ _ _ (fun keep body env1 B1 q g1 g2 g3 => h keep body env1 B1 q (by simp [loopsOf, g1]) g2 g3) hr
      | false => exact evT_ok LS byref call n k0 hd b _ _ _ _ (fun keep body env1 B1 q g1 g2 g3 => h keep body env1 B1 q (by simp [loopsOf, g1]) g2 g3) hr
    · simp [M.run] at hr
  | .block id a, env, B, r, vis, h, hr => by
    simp only [evT] at hr
    obtain ⟨⟨⟨e, env', B'⟩, v⟩, h1, h2⟩ := run_bindS hr
    simp only [M.run, Option.some.injEq, Prod.mk.injEq] at h2
    obtain ⟨h2, rfl⟩ := h2
    simp only [evC]
    rw [M.run_bind, evT_ok LS byref call n k0 hd a _ _ _ _ (fun keep body env1 B1 q g1 g2 g3 => h keep body env1 B1 q (by simpa [loopsOf] using g1) g2 g3) h1]
    rw [← h2]
    cases e <;> rfl
  | .loop keep a, env, B, r, vis, h, hr => by
    simp only [evT] at hr
    split at hr
    · rename_i q hq
      obtain ⟨⟨env1, B1⟩, h1, h2⟩ := run_bindS hr
      simp only [M.run, Option.some.injEq, Prod.mk.injEq] at h2
      obtain ⟨rfl, rfl⟩ := h2
      simp only [evC]
      exact loopN_turns _ _ _ _ _ _ h1 (h keep a env1 B1 q (by simp [loopsOf]) (by simp) hq)
    · simp [M.run] at hr
  | .exit id, env, B, r, vis, h, hr => by
    simp only [evT, M.run, Option.some.injEq, Prod.mk.injEq] at hr
    simp only [evC, M.run, hr.1]
  | .ret, env, B, r, vis, h, hr => by
    simp only [evT, M.run, Option.some.injEq, Prod.mk.injEq] at hr
    simp only [evC, M.run, hr.1]
  | .bad, env, B, r, vis, h, hr => by simp [evT, M.run] at hr

def runT (LS : Nat → Option (AEx × Env × Boxes)) (byref : FuncId → Bool) (call : Caller) (n : Nat) (fn : AFn) (args : List AV) (B : Boxes) : M ((AV × Boxes) × Vis) :=
  (evT LS byref call n B.length fn.hd fn.body (args ++ List.replicate (fn.ntmps - args.length) (.tup [])) B).bind fun (r, v) => match r with
    | (.exit _, _, _) => .fail
    | (_, env, B') => (finish B.length fn.plain fn.results env B').bind fun x => .ret (x, v)

theorem runT_ok {LS : Nat → Option (AEx × Env × Boxes)} {F : FuncId → Option AFn} {S : FuncId → Option (List AV → Boxes → M (AV × Boxes))} {n : Nat} {f : FuncId} {fn : AFn} {as : List AV} {B B' : Boxes} {r : AV} {vis : Vis} (hF : F f = some fn) (hS : S f = none)
    (hd : distinctLoops fn.body = true)
    (hr : (runT LS (fun g => match F g with | some h => h.byref | none => false) (evCall F S n) n fn as B).run = some ((r, B'), vis))
    (h : ∀ p, p ∈ vis → ∀ q, LS p.1 = some q → (turns (fn.hd p.1) B.length p.1 (evC (fun g => match F g with | some h => h.byref | none => false) (evCall F S n) n B.length fn.hd (loopBody p.1 fn.body)) n p.2.1 p.2.2).run = some q) : (evCall F S (n + 1) f as B).run = some (r, B') := by
  simp only [evCall, hS, hF]
  obtain ⟨⟨⟨e, e1, B1⟩, v⟩, h1, h2⟩ := run_bindS hr
  have hv : v = vis ∧ (match e with | .exit _ => M.fail | _ => finish B.length fn.plain fn.results e1 B1).run = some (r, B') := by
    cases e with
    | exit id => simp [M.run] at h2
    | normal =>
      obtain ⟨x, h3, h4⟩ := run_bindS h2
      simp only [M.run, Option.some.injEq, Prod.mk.injEq] at h4
      obtain ⟨rfl, rfl⟩ := h4
      exact ⟨rfl, h3⟩
    | ret =>
      obtain ⟨x, h3, h4⟩ := run_bindS h2
      simp only [M.run, Option.some.injEq, Prod.mk.injEq] at h4
      obtain ⟨rfl, rfl⟩ := h4
      exact ⟨rfl, h3⟩
  obtain ⟨rfl, hfin⟩ := hv
  have h1' := evT_ok LS _ _ n B.length fn.hd fn.body _ _ _ _ (fun keep body env1 B1 q g1 g2 g3 => by
    have := h (keep, env1, B1) g2 q g3
    rw [← loopBody_eq hd g1] at this
    exact this) h1
  rw [M.run_bind]
  refine Eq.trans (congrArg (fun o => Option.bind o _) (show _ = some (e, e1, B1) from h1')) ?_
  cases e with
  | exit id => simp [M.run] at hfin
  | normal => exact hfin
  | ret => exact hfin

def turnT (LS : Nat → Option (AEx × Env × Boxes)) (byref : FuncId → Bool) (call : Caller) (n k0 : Nat) (hd : Nat → Hd) (keep : Nat) (body : AC) (env : Env) (B : Boxes) : M ((AEx × Env × Boxes) × Vis) :=
  (evT LS byref call n k0 hd body env B).bind fun (r, v) => match r with
    | (.normal, env', B') => (head (hd keep) k0 keep env' B').bind fun (env2, B2) => .ret ((.normal, env2, B2), v)
    | r => .ret (r, v)

theorem turnT_ok {LS : Nat → Option (AEx × Env × Boxes)} {byref : FuncId → Bool} {call : Caller} {n k0 : Nat} {hd : Nat → Hd} {keep : Nat} {body : AC} {env : Env} {B : Boxes} {r : AEx × Env × Boxes} {vis : Vis} (hdis : distinctLoops body = true)
    (hr : (turnT LS byref call n k0 hd keep body env B).run = some (r, vis))
    (h : ∀ p, p ∈ vis → ∀ q, LS p.1 = some q → (turns (hd p.1) k0 p.1 (evC byref call n k0 hd (loopBody p.1 body)) n p.2.1 p.2.2).run = some q) : (turn (hd keep) k0 keep (evC byref call n k0 hd body) env B).run = some r := by
  unfold turnT at hr
  obtain ⟨⟨⟨e, e1, B1⟩, v⟩, h1, h2⟩ := run_bindS hr
  have ev : (∀ p, p ∈ v → p ∈ vis) → (evC byref call n k0 hd body env B).run = some (e, e1, B1) := fun hv => evT_ok LS _ _ n k0 hd body _ _ _ _ (fun keep body' env1 B1 q g1 g2 g3 => by
    have := h (keep, env1, B1) (hv _ g2) q g3
    rw [← loopBody_eq hdis g1] at this
    exact this) h1
  unfold turn
  rw [M.run_bind]
  cases e with
  | normal =>
    obtain ⟨⟨e4, B4⟩, h5, h6⟩ := run_bindS h2
    simp only [M.run, Option.some.injEq, Prod.mk.injEq] at h6
    obtain ⟨rfl, rfl⟩ := h6
    rw [ev fun p hp => hp]
    simp only [Option.bind_some]
    rw [M.run_bind, h5]
    rfl
  | exit id =>
    simp only [M.run, Option.some.injEq, Prod.mk.injEq] at h2
    obtain ⟨rfl, rfl⟩ := h2
    rw [ev fun p hp => hp]
    rfl
  | ret =>
    simp only [M.run, Option.some.injEq, Prod.mk.injEq] at h2
    obtain ⟨rfl, rfl⟩ := h2
    rw [ev fun p hp => hp]
    rfl

end Go.Ev
namespace Go.Ev
set_option linter.unusedVariables false
set_option linter.unusedSimpArgs false
set_option linter.unusedSectionVars false

def M.mixed {α : Type} : List Bool → M α → Option (α × List Bool)
  | [], m => match m.run with
    | some a => some (a, [])
    | none => none
  | _ :: _, .ret a => some (a, [])
  | _ :: _, .fail => none
  | p :: ps, .br b k => match M.mixed ps (k p) with
    | none => none
    | some (a, cs) => some (a, (b == p) :: cs)

theorem M.run_of_mixed {α : Type} : ∀ (ps : List Bool) (m : M α) (a : α) (cs : List Bool), m.mixed ps = some (a, cs) → cs.all id = true → m.run = some a
  | [], m, a, cs, h, _ => by
    simp only [M.mixed] at h
    split at h
    · rename_i b hb; simp only [Option.some.injEq, Prod.mk.injEq] at h; rw [hb, h.1]
    · cases h
  | p :: ps, .ret b, a, cs, h, _ => by simp only [M.mixed, Option.some.injEq, Prod.mk.injEq] at h; simp only [M.run, h.1]
  | p :: ps, .fail, a, cs, h, _ => by simp [M.mixed] at h
  | p :: ps, .br b k, a, cs, h, hc => by
    simp only [M.mixed] at h
    cases hp : M.mixed ps (k p) with
    | none => rw [hp] at h; cases h
    | some x =>
      rw [hp] at h
      obtain ⟨x1, x2⟩ := x
      simp only [Option.some.injEq, Prod.mk.injEq] at h
      obtain ⟨rfl, rfl⟩ := h
      simp at hc
      have := M.run_of_mixed ps (k p) _ _ hp (by simpa using hc.2)
      simp only [M.run]
      rw [hc.1]
      exact this

def withinI (n lo hi : Int) : Int := lo + n % (hi - lo + 1)

def w64 (n : Int) : Int := IntKind.wrap .i64 n

theorem w64_id {n : Int} (h1 : -9223372036854775808 ≤ n) (h2 : n ≤ 9223372036854775807) : w64 n = n := by
  show (if (true && decide (n % 18446744073709551616 ≥ 9223372036854775808)) = true then n % 18446744073709551616 - 18446744073709551616 else n % 18446744073709551616) = n
  simp only [Bool.true_and, decide_eq_true_eq]
  split <;> omega

def withinFn : AFn := ⟨24, [(6, none)],
  .seq (.region [⟨some 6, none, .mv, [.val (.d (.int .i64 0))]⟩] none)
  (.seq (.region [⟨some 7, none, .mv, [.tmp 0]⟩, ⟨some 8, none, .mv, [.tmp 2]⟩, ⟨some 9, none, .mv, [.tmp 1]⟩, ⟨some 10, none, .bin .sub, [.tmp 8, .tmp 9]⟩, ⟨some 11, none, .bin .add, [.tmp 10, .val (.d (.int .i64 1))]⟩, ⟨some 12, none, .bin .rem, [.tmp 7, .tmp 11]⟩, ⟨some 0, none, .mv, [.tmp 12]⟩] none)
  (.seq (.seq (.region [⟨some 13, none, .mv, [.tmp 0]⟩, ⟨some 14, none, .bin .lss, [.tmp 13, .val (.d (.int .i64 0))]⟩] none)
  (.cnd (.tmp 14) (.region [⟨some 15, none, .mv, [.tmp 0]⟩, ⟨some 16, none, .mv, [.tmp 2]⟩, ⟨some 17, none, .bin .add, [.tmp 15, .tmp 16]⟩, ⟨some 18, none, .mv, [.tmp 1]⟩, ⟨some 19, none, .bin .sub, [.tmp 17, .tmp 18]⟩, ⟨some 20, none, .bin .add, [.tmp 19, .val (.d (.int .i64 1))]⟩, ⟨some 0, none, .mv, [.tmp 20]⟩] none) .skip))
  (.seq (.region [⟨some 21, none, .mv, [.tmp 1]⟩, ⟨some 22, none, .mv, [.tmp 0]⟩, ⟨some 23, none, .bin .add, [.tmp 21, .tmp 22]⟩, ⟨some 6, none, .mv, [.tmp 23]⟩] none) .ret))), true, false, noHd⟩

def withinM (n lo hi : Int) : Int := w64 (w64 (hi - lo) + 1)

theorem within_pos (n lo hi : Int) (F : FuncId → Option AFn) (S : FuncId → Option (List AV → Boxes → M (AV × Boxes))) (f : FuncId) (m : Nat) (hF : F f = some withinFn) (hS : S f = none) :
    (evCall F S (m + 2) f [.d (.int .i64 n), .d (.int .i64 lo), .d (.int .i64 hi)] []).path [true, false] = some ((.d (.int .i64 (w64 (lo + Int.tmod n (withinM n lo hi)))), []), [(!decide (withinM n lo hi = 0)) == true, decide (Int.tmod n (withinM n lo hi) < 0) == false]) := by
  unfold evCall
  rw [hS, hF]
  kernel_rfl

theorem within_neg (n lo hi : Int) (F : FuncId → Option AFn) (S : FuncId → Option (List AV → Boxes → M (AV × Boxes))) (f : FuncId) (m : Nat) (hF : F f = some withinFn) (hS : S f = none) :
    (evCall F S (m + 2) f [.d (.int .i64 n), .d (.int .i64 lo), .d (.int .i64 hi)] []).path [true, true] = some ((.d (.int .i64 (w64 (lo + w64 (w64 (w64 (Int.tmod n (withinM n lo hi) + hi) - lo) + 1)))), []), [(!decide (withinM n lo hi = 0)) == true, decide (Int.tmod n (withinM n lo hi) < 0) == true]) := by
  unfold evCall
  rw [hS, hF]
  kernel_rfl

theorem within_run (n lo hi : Int) (F : FuncId → Option AFn) (S : FuncId → Option (List AV → Boxes → M (AV × Boxes))) (f : FuncId) (m : Nat) (hF : F f = some withinFn) (hS : S f = none)
    (h1 : -4611686018427387904 ≤ lo) (h2 : lo ≤ hi) (h3 : hi ≤ 2305843009213693951) (h4 : hi - lo ≤ 2305843009213693951) :
    (evCall F S (m + 2) f [.d (.int .i64 n), .d (.int .i64 lo), .d (.int .i64 hi)] []).run = some (.d (.int .i64 (withinI n lo hi)), []) := by
  have hm : withinM n lo hi = hi - lo + 1 := by
    unfold withinM
    rw [w64_id (n := hi - lo) (by omega) (by omega), w64_id (by omega) (by omega)]
  have hp : 0 < hi - lo + 1 := by omega
  have e1 := Int.emod_nonneg n (b := hi - lo + 1) (by omega)
  have e2 := Int.emod_lt_of_pos n hp
  by_cases hneg : Int.tmod n (hi - lo + 1) < 0
  · have ht : n % (hi - lo + 1) = Int.tmod n (hi - lo + 1) + (hi - lo + 1) := by
      rw [Int.tmod_eq_emod] at hneg ⊢
      split at hneg
      · omega
      · rename_i h; rw [if_neg h]; rw [Int.natAbs_of_nonneg (by omega)]; omega
    have hgt : -(hi - lo + 1) ≤ Int.tmod n (hi - lo + 1) := by omega
    have := M.run_of_path _ _ _ _ (within_neg n lo hi F S f m hF hS) (by rw [hm]; simp [hneg]; omega)
    rw [this, hm]
    simp only [Option.some.injEq, Prod.mk.injEq, and_true, AV.d.injEq, D.int.injEq, true_and]
    unfold withinI
    rw [ht]
    rw [w64_id (n := Int.tmod n (hi - lo + 1) + hi) (by omega) (by omega), w64_id (n := Int.tmod n (hi - lo + 1) + hi - lo) (by omega) (by omega), w64_id (n := Int.tmod n (hi - lo + 1) + hi - lo + 1) (by omega) (by omega), w64_id (by omega) (by omega)]
    omega
  · have ht : n % (hi - lo + 1) = Int.tmod n (hi - lo + 1) := by
      rw [Int.tmod_eq_emod] at hneg ⊢
      split at hneg
      · rename_i h; rw [if_pos h]
        simp
      · rename_i h; rw [if_neg h]; rw [Int.natAbs_of_nonneg (by omega)] at hneg ⊢; omega
    have := M.run_of_path _ _ _ _ (within_pos n lo hi F S f m hF hS) (by rw [hm]; simp; omega)
    rw [this, hm]
    simp only [Option.some.injEq, Prod.mk.injEq, and_true, AV.d.injEq, D.int.injEq, true_and]
    unfold withinI
    rw [ht]
    rw [w64_id (by omega) (by omega)]

def withinS : List AV → Boxes → M (AV × Boxes) := fun as B => match as with
  | [.d (.int .i64 n), .d (.int .i64 lo), .d (.int .i64 hi)] => .chk (decide (-4611686018427387904 ≤ lo) && decide (lo ≤ hi) && decide (hi ≤ 2305843009213693951) && decide (hi - lo ≤ 2305843009213693951)) (.ret (.d (.int .i64 (withinI n lo hi)), B))
  | _ => .fail

def withinAt (n lo hi c : Int) : List AV → Boxes → M (AV × Boxes) := fun as B => match as with
  | [.d (.int .i64 n'), .d (.int .i64 lo'), .d (.int .i64 hi')] => .chk (decide (n' = n)) (.ifb (decide (lo' = lo) && decide (hi' = hi)) (.ret (.d (.int .i64 c), B)))
  | _ => .fail

variable [Ctx]
section
variable {P : Program} [TagOK P]

theorem plainCall_at (hm : P.follows .mixedOrders = true) {kinds : FuncId → Bool × Bool} {S : FuncId → Option (List AV → Boxes → M (AV × Boxes))} (hS : ∀ f s, S f = some s → CallAt P f s) {f : FuncId} {g : List D → M AV} 
    (h : ∀ ds r, (g ds).run = some r → ∃ n, (evCall (fnsOf P kinds) S n f (ds.map .d) []).run = some (r, [])) : CallAt P f (plainV g) :=
  plainV_at fun ds r hr => by
    obtain ⟨n, hn⟩ := h ds r hr
    exact known hm hS hn

def withinD (ok : Int → Int → Int → Bool) (c : Int → Int → Int → Int) : List D → M AV
  | [.int .i64 n, .int .i64 lo, .int .i64 hi] => .chk (ok n lo hi) (.ret (.d (.int .i64 (c n lo hi))))
  | _ => .fail

theorem within_at (hm : P.follows .mixedOrders = true) {kinds : FuncId → Bool × Bool} {f : FuncId} (hF : fnsOf P kinds f = some withinFn) : CallAt P f withinS := by
  have hp : CallAt P f (plainV (withinD (fun n lo hi => decide (-4611686018427387904 ≤ lo) && decide (lo ≤ hi) && decide (hi ≤ 2305843009213693951) && decide (hi - lo ≤ 2305843009213693951)) withinI)) := by
    refine plainCall_at hm (kinds := kinds) (S := fun _ => none) (fun f s h => by cases h) fun ds r hr => ?_
    unfold withinD at hr
    split at hr
    · rename_i n lo hi
      obtain ⟨hc, hr⟩ := (M.run_chk _ _ _).1 hr
      simp only [M.run, Option.some.injEq] at hr
      subst hr
      simp only [Bool.and_eq_true, decide_eq_true_eq] at hc
      exact ⟨2, within_run n lo hi _ _ f 0 hF rfl hc.1.1.1 hc.1.1.2 hc.1.2 hc.2⟩
    · simp [M.run] at hr
  intro as B r B' hr
  refine hp as B r B' ?_
  unfold withinS at hr
  split at hr
  · rename_i n lo hi
    obtain ⟨hc, hr⟩ := (M.run_chk _ _ _).1 hr
    have : (plainV (withinD (fun n lo hi => decide (-4611686018427387904 ≤ lo) && decide (lo ≤ hi) && decide (hi ≤ 2305843009213693951) && decide (hi - lo ≤ 2305843009213693951)) withinI) [.d (.int .i64 n), .d (.int .i64 lo), .d (.int .i64 hi)] B) = .chk (decide (-4611686018427387904 ≤ lo) && decide (lo ≤ hi) && decide (hi ≤ 2305843009213693951) && decide (hi - lo ≤ 2305843009213693951)) (.ret (.d (.int .i64 (withinI n lo hi)), B)) := by
      simp only [plainV, asDs, optM, withinD, M.bind, M.chk]
      congr 1
      funext p
      cases p <;> rfl
    rw [this]
    exact (M.run_chk _ _ _).2 ⟨hc, hr⟩
  · simp [M.run] at hr

theorem withinAt_at {f : FuncId} (h : CallAt P f withinS) {n lo hi c : Int} (hc : withinI n lo hi = c) (hb : (decide (-4611686018427387904 ≤ lo) && decide (lo ≤ hi) && decide (hi ≤ 2305843009213693951) && decide (hi - lo ≤ 2305843009213693951)) = true) : CallAt P f (withinAt n lo hi c) := by
  intro as B r B' hr
  refine h as B r B' ?_
  unfold withinAt at hr
  split at hr
  · rename_i n' lo' hi'
    obtain ⟨h1, hr1⟩ := (M.run_chk _ _ _).1 hr
    obtain ⟨h2, hr2⟩ := (M.run_ifb _ _ _).1 hr1
    simp only [Bool.and_eq_true, decide_eq_true_eq] at h1 h2
    obtain ⟨rfl, rfl⟩ := h2
    subst h1
    show (M.chk _ (M.ret (AV.d (D.int .i64 (withinI n' lo' hi')), B))).run = _
    rw [hc]
    exact (M.run_chk _ _ _).2 ⟨hb, hr2⟩
  · simp [M.run] at hr

end
end Go.Ev
namespace Go.Ev
set_option linter.unusedVariables false

theorem wrap_id {n : Int} (h1 : -9223372036854775808 ≤ n) (h2 : n ≤ 9223372036854775807) : IntKind.wrap .i64 n = n := w64_id h1 h2

theorem drop_getD {α : Type} (l : List α) (k : Nat) (d : α) (h : k < l.length) : l.drop k = l.getD k d :: l.drop (k + 1) := by
  rw [List.drop_eq_getElem_cons h, List.getD_eq_getElem?_getD, List.getElem?_eq_getElem h]
  rfl

theorem getD_mem {α : Type} (l : List α) (k : Nat) (d : α) (h : k < l.length) : l.getD k d ∈ l := by
  rw [List.getD_eq_getElem?_getD, List.getElem?_eq_getElem h]
  exact List.getElem_mem h

theorem take_succ_getD {α : Type} (l : List α) (k : Nat) (d : α) (h : k < l.length) : l.take (k + 1) = l.take k ++ [l.getD k d] := by
  rw [List.take_add_one, List.getD_eq_getElem?_getD, List.getElem?_eq_getElem h]
  rfl

end Go.Ev
namespace Go.Ev
set_option linter.unusedVariables false
set_option linter.unusedSimpArgs false
set_option linter.unusedSectionVars false
variable [Ctx]

section
variable {X X' : Blocks} {β : Map} {N N' : Nat → Prop} {w : World}

mutual
theorem VR.less (hX : ∀ c, X' c → X c) : ∀ (a : AV) (v : Value), (∀ b ∈ a.refs, N' b) → VR X β N w a v → VR X' β N' w a v
  | .top, v, _, h => by unfold VR; trivial
  | .d x, v, _, h => by unfold VR at h ⊢; exact h.anti hX
  | .sr b off len sz cap, v, hn, h => by
    obtain ⟨h1, h2, h3⟩ := VR.sr_iff.1 h
    exact VR.sr_iff.2 ⟨hn b (by simp [AV.refs]), h2, h3⟩
  | .ptr b off, v, hn, h => by
    obtain ⟨h1, h2⟩ := VR.ptr_iff.1 h
    exact VR.ptr_iff.2 ⟨hn b (by simp [AV.refs]), h2⟩
  | .mp b, v, hn, h => by
    obtain ⟨h1, h2⟩ := VR.mp_iff.1 h
    exact VR.mp_iff.2 ⟨hn b (by simp [AV.refs]), h2⟩
  | .eptr b i sz off, v, hn, h => by
    obtain ⟨h1, h2⟩ := VR.eptr_iff.1 h
    exact VR.eptr_iff.2 ⟨hn b (by simp [AV.refs]), h2⟩
  | .cptr cs off, v, hn, h => by
    obtain ⟨c, base, h1, h2, h3, h4⟩ := VR.cptr_iff.1 h
    refine VR.cptr_iff.2 ⟨c, base, h1, fun hc => h2 (hX c hc), h3, fun j d hd => ?_⟩
    obtain ⟨u, h5, h6⟩ := h4 j d hd
    exact ⟨u, h5, h6.anti hX⟩
  | .agg cs, v, hn, h => by
    obtain ⟨vs, h1, h2⟩ := VR.agg_iff.1 h
    exact VR.agg_iff.2 ⟨vs, h1, VRs.less hX cs _ (fun b hb => hn b (by simpa [AV.refs] using hb)) h2⟩
  | .tup cs, v, hn, h => by
    obtain ⟨vs, h1, h2⟩ := VR.tup_iff.1 h
    exact VR.tup_iff.2 ⟨vs, h1, VRs.less hX cs _ (fun b hb => hn b (by simpa [AV.refs] using hb)) h2⟩
  | .fn f cs, v, hn, h => by
    obtain ⟨vs, h1, h2⟩ := VR.fn_iff.1 h
    exact VR.fn_iff.2 ⟨vs, h1, VRs.less hX cs _ (fun b hb => hn b (by simpa [AV.refs] using hb)) h2⟩
  | .snil b T, v, hn, h => by
    obtain ⟨h1, h2⟩ := VR.snil_iff.1 h
    exact VR.snil_iff.2 ⟨hn b (by simp [AV.refs]), h2⟩
  | .ifc T, v, hn, h => by unfold VR at h ⊢; exact h
theorem VRs.less (hX : ∀ c, X' c → X c) : ∀ (as : List AV) (vs : List Value), (∀ b ∈ AV.refs.refsL as, N' b) → VRs X β N w as vs → VRs X' β N' w as vs
  | [], [], _, h => by unfold VRs; trivial
  | [], _ :: _, _, h => by unfold VRs at h; exact h.elim
  | _ :: _, [], _, h => by unfold VRs at h; exact h.elim
  | a :: as, v :: vs, hn, h => by
    unfold VRs at h ⊢
    exact ⟨VR.less hX a v (fun b hb => hn b (by simp [AV.refs.refsL, hb])) h.1, VRs.less hX as vs (fun b hb => hn b (by simp [AV.refs.refsL, hb])) h.2⟩
end

end

def lessB (n : Nat) (l : List Nat) : Bool := l.all fun b => Nat.blt b n

def wk1 (B B' : Boxes) : AV → AV → Prop
  | _, .top => True
  | .d .nils, .d (.sl _ l) => l = []
  | .sr b off len sz _, .d (.sl t l) => ∃ l0 m, look B b = .arr t l0 m ∧ sz = t.size ∧ off + len ≤ l0.length ∧ l = (l0.drop off).take len ∧ (look B' b).live = false
  | .sr b off len sz cap, .sr b' off' len' sz' cap' => b = b' ∧ off = off' ∧ len = len' ∧ sz = sz' ∧ (cap' = none ∨ cap' = cap) ∧ Nat.blt b B'.length = true
  | a, a' => a = a' ∧ lessB B'.length a.refs = true

def wkL (B B' : Boxes) : List AV → List AV → Prop
  | [], [] => True
  | a :: as, b :: bs => wk1 B B' a b ∧ wkL B B' as bs
  | _, _ => False

def wkV (B B' : Boxes) : AV → AV → Prop
  | .agg as, .agg bs => wkL B B' as bs
  | a, b => wk1 B B' a b

def wkVs (B B' : Boxes) : List AV → List AV → Prop
  | [], [] => True
  | a :: as, b :: bs => wkV B B' a b ∧ wkVs B B' as bs
  | _, _ => False

def wkR (B B' : Boxes) : AV → AV → Prop
  | .tup as, .tup bs => wkVs B B' as bs
  | a, b => wkV B B' a b

def wkBox (B B' : Boxes) : Box → Box → Prop
  | _, .dead => True
  | .cells l, .cells l' => wkL B B' l l'
  | .arr t l m, .arr t' l' m' => Box.arr t l m' = Box.arr t' l' m' ∧ (m' = true → m = true)
  | _, _ => False

def wkBs (B B' : Boxes) : Nat → List Box → Prop
  | _, [] => True
  | b, x :: xs => wkBox B B' (look B b) x ∧ wkBs B B' (b + 1) xs

theorem wkBs_get {B B' : Boxes} : ∀ (xs : List Box) (b0 : Nat), wkBs B B' b0 xs → ∀ j x, xs[j]? = some x → wkBox B B' (look B (b0 + j)) x
  | [], b0, _, j, x, h => by simp at h
  | y :: ys, b0, h, j, x, hj => by
    cases j with
    | zero => simp at hj; subst hj; exact h.1
    | succ j =>
      have := wkBs_get ys (b0 + 1) h.2 j x (by simpa using hj)
      rwa [show b0 + (j + 1) = b0 + 1 + j by omega]

section
variable {X : Blocks} {β : Map} {w : World} {B B' : Boxes}

theorem look_dead {B : Boxes} {b : Nat} (h : ¬ b < B.length) : look B b = .dead := by
  unfold look
  rw [List.getD_eq_getElem?_getD, List.getElem?_eq_none (by omega)]
  rfl

theorem wk_live (hb : wkBs B B' 0 B') : ∀ b, (look B' b).live = true → (look B b).live = true := by
  intro b h
  by_cases hlt : b < B'.length
  · have hg : B'[b]? = some (look B' b) := by
      unfold look
      rw [List.getD_eq_getElem?_getD, List.getElem?_eq_getElem hlt]
      rfl
    have := wkBs_get B' 0 hb b _ hg
    rw [Nat.zero_add] at this
    generalize look B' b = x at this h
    generalize look B b = y at this
    cases x with
    | dead => simp [Box.live] at h
    | cells l => cases y <;> simp [wkBox] at this; rfl
    | keys t l => cases y <;> simp [wkBox] at this
    | arr t l m =>
      cases y <;> simp [wkBox] at this
      simp only [Box.live] at h ⊢
      exact this.2 h
  · rw [look_dead hlt] at h
    simp [Box.live] at h

theorem wk_all (hb : wkBs B B' 0 B') : ∀ c, All X β (look B') c → All X β (look B) c := by
  rintro c (h | ⟨b, h1, h2⟩)
  · exact .inl h
  · exact .inr ⟨b, wk_live hb b h1, h2⟩

theorem wk1_sound (hS : SimB X β (· < B.length) w (look B)) (hb : wkBs B B' 0 B') {a a' : AV} (h : wk1 B B' a a') {v : Value} (hv : VR (All X β (look B)) β (· < B.length) w a v) : VR (All X β (look B')) β (· < B'.length) w a' v := by
  have same : a = a' ∧ lessB B'.length a.refs = true → VR (All X β (look B')) β (· < B'.length) w a' v := by
    rintro ⟨rfl, h2⟩
    refine VR.less (wk_all hb) a v (fun b hbm => ?_) hv
    have := List.all_eq_true.1 h2 b hbm
    rw [Nat.blt, Nat.ble_eq] at this
    exact this
  unfold wk1 at h
  split at h
  · unfold VR; trivial
  · subst h
    have : v = .slice none 0 0 := VR.d_iff.1 hv
    subst this
    exact VR.d_iff.2 (RD.nil rfl)
  · rename_i b off len sz cap t l
    obtain ⟨l0, m, h1, rfl, h3, rfl, h5⟩ := h
    have hr : (toD B (.sr b off len t.size cap)).run = some (.sl t ((l0.drop off).take len), [(b, .arr t l0 false)]) := by
      simp only [toD]
      rw [h1]
      simp [M.run_ifb, M.run_chk, M.run, h3]
    obtain ⟨_, _, h6, _⟩ := toD_sound (L1 := look B) hS (Cl.refl _) hr hv
    refine VR.d_iff.2 (h6.anti ?_)
    rintro c (hx | ⟨b', g1, g2⟩)
    · exact .inl hx
    · refine .inr ⟨b', ?_, g2⟩
      have hne : b' ≠ b := fun e => by rw [e, h5] at g1; cases g1
      show (updL (look B) b _ b').live = true
      unfold updL
      rw [if_neg hne]
      exact wk_live hb b' g1
  · rename_i b off len sz cap b' off' len' sz' cap'
    obtain ⟨rfl, rfl, rfl, rfl, h5, h6⟩ := h
    obtain ⟨g1, g2, g3⟩ := VR.sr_iff.1 hv
    refine VR.sr_iff.2 ⟨?_, g2, ?_⟩
    · rw [Nat.blt, Nat.ble_eq] at h6; exact h6
    · rcases h5 with rfl | rfl
      · rcases g3 with ⟨b1, b2, b3, b4, _⟩ | ⟨c, k, b1, b2, b3, _, b5⟩
        · exact .inl ⟨b1, b2, b3, b4, rfl⟩
        · exact .inr ⟨c, k, b1, b2, b3, fun k' e => (by cases e), b5⟩
      · exact g3
  · exact same h

theorem wkL_len : ∀ (as bs : List AV), wkL B B' as bs → as.length = bs.length
  | [], [], _ => rfl
  | [], _ :: _, h => h.elim
  | _ :: _, [], h => h.elim
  | a :: as, b :: bs, h => by simp [wkL_len as bs h.2]

theorem wkL_get : ∀ (as bs : List AV), wkL B B' as bs → ∀ (j : Nat) (b : AV), bs[j]? = some b → ∃ a : AV, as[j]? = some a ∧ wk1 B B' a b
  | [], [], _, j, b, h => by simp at h
  | [], _ :: _, h, _, _, _ => h.elim
  | _ :: _, [], h, _, _, _ => h.elim
  | a :: as, b :: bs, h, j, c, hj => by
    cases j with
    | zero => simp at hj; subst hj; exact ⟨a, rfl, h.1⟩
    | succ j => simpa using wkL_get as bs h.2 j c (by simpa using hj)

theorem wkL_sound (hS : SimB X β (· < B.length) w (look B)) (hb : wkBs B B' 0 B') : ∀ (as bs : List AV), wkL B B' as bs → ∀ vs, VRs (All X β (look B)) β (· < B.length) w as vs → VRs (All X β (look B')) β (· < B'.length) w bs vs
  | [], [], _, [], h => by unfold VRs; trivial
  | [], [], _, _ :: _, h => by unfold VRs at h; exact h.elim
  | [], _ :: _, h, _, _ => h.elim
  | _ :: _, [], h, _, _ => h.elim
  | a :: as, b :: bs, h, [], hv => by unfold VRs at hv; exact hv.elim
  | a :: as, b :: bs, h, v :: vs, hv => by
    unfold VRs at hv ⊢
    exact ⟨wk1_sound hS hb h.1 hv.1, wkL_sound hS hb as bs h.2 vs hv.2⟩

theorem wkV_sound (hS : SimB X β (· < B.length) w (look B)) (hb : wkBs B B' 0 B') {a a' : AV} (h : wkV B B' a a') {v : Value} (hv : VR (All X β (look B)) β (· < B.length) w a v) : VR (All X β (look B')) β (· < B'.length) w a' v := by
  unfold wkV at h
  split at h
  · obtain ⟨vs, rfl, h2⟩ := VR.agg_iff.1 hv
    exact VR.agg_iff.2 ⟨vs, rfl, wkL_sound hS hb _ _ h _ h2⟩
  · exact wk1_sound hS hb h hv

theorem wkVs_sound (hS : SimB X β (· < B.length) w (look B)) (hb : wkBs B B' 0 B') : ∀ (as bs : List AV), wkVs B B' as bs → ∀ vs, VRs (All X β (look B)) β (· < B.length) w as vs → VRs (All X β (look B')) β (· < B'.length) w bs vs
  | [], [], _, [], h => by unfold VRs; trivial
  | [], [], _, _ :: _, h => by unfold VRs at h; exact h.elim
  | [], _ :: _, h, _, _ => h.elim
  | _ :: _, [], h, _, _ => h.elim
  | a :: as, b :: bs, h, [], hv => by unfold VRs at hv; exact hv.elim
  | a :: as, b :: bs, h, v :: vs, hv => by
    unfold VRs at hv ⊢
    exact ⟨wkV_sound hS hb h.1 hv.1, wkVs_sound hS hb as bs h.2 vs hv.2⟩

theorem wkR_sound (hS : SimB X β (· < B.length) w (look B)) (hb : wkBs B B' 0 B') {a a' : AV} (h : wkR B B' a a') {v : Value} (hv : VR (All X β (look B)) β (· < B.length) w a v) : VR (All X β (look B')) β (· < B'.length) w a' v := by
  unfold wkR at h
  split at h
  · obtain ⟨vs, rfl, h2⟩ := VR.tup_iff.1 hv
    exact VR.tup_iff.2 ⟨vs, rfl, wkVs_sound hS hb _ _ h _ h2⟩
  · exact wkV_sound hS hb h hv

theorem SimB.weak (hS : SimB X β (· < B.length) w (look B)) (hb : wkBs B B' 0 B') (hl : B'.length ≤ B.length) : SimB X β (· < B'.length) w (look B') := by
  have hown : ∀ c, Own β (look B') c → Own β (look B) c := fun c ⟨b, h1, h2⟩ => ⟨b, wk_live hb b h1, h2⟩
  refine ⟨fun c h => hS.apart c (hown c h), fun b b' c h1 h2 => hS.inj b b' c (wk_live hb b h1) (wk_live hb b' h2), fun b => ?_, fun b h => ?_, hS.old, hS.tabs.1, fun c hc => ⟨(hS.tabs.2 c hc).1, fun h => (hS.tabs.2 c hc).2 (hown c h)⟩⟩
  · by_cases hlt : b < B'.length
    · have hg : B'[b]? = some (look B' b) := by
        unfold look
        rw [List.getD_eq_getElem?_getD, List.getElem?_eq_getElem hlt]
        rfl
      have hw := wkBs_get B' 0 hb b _ hg
      rw [Nat.zero_add] at hw
      have hB := hS.box b
      generalize hx : look B' b = x at hw
      generalize hy : look B b = y at hw hB
      cases x with
      | dead => trivial
      | cells l' =>
        cases y <;> simp only [wkBox] at hw
        rename_i l
        obtain ⟨c, arr, e, h1, h2, h3, h4⟩ := hB
        refine ⟨c, arr, e, h1, h2, by rw [h3, wkL_len _ _ hw], fun j a v ha hv => ?_⟩
        obtain ⟨a0, g1, g2⟩ := wkL_get _ _ hw j a ha
        exact ⟨wk1_sound hS hb g2 (h4 j a0 v g1 hv).1, (h4 j a0 v g1 hv).2⟩
      | keys t' l' => cases y <;> simp only [wkBox] at hw
      | arr t' l' m' =>
        cases y <;> simp only [wkBox] at hw
        rename_i t l m
        obtain ⟨he, hm⟩ := hw
        cases he
        obtain ⟨h0, h1⟩ := hB
        refine ⟨h0, ?_⟩
        rcases h1 with h1 | ⟨c, arr, e, g1, g2, g3, g4, g5⟩
        · exact .inl h1
        · refine .inr ⟨c, arr, e, g1, g2, g3, ⟨fun hm' => ?_, g4.2⟩, fun i hi => (g5 i hi).anti (wk_all hb)⟩
          cases m with
          | false => exact fun h => g4.1 rfl (wk_all hb c h)
          | true =>
            have hlive : (look B b).live = true := by rw [hy]; rfl
            rintro (h | ⟨b', k1, k2⟩)
            · exact hS.apart c ⟨b, hlive, g1⟩ h
            · have := hS.inj b b' c hlive (wk_live hb b' k1) g1 k2
              subst this
              rw [hx, hm'] at k1
              cases k1
    · rw [look_dead hlt]; trivial
  · by_cases hlt : b < B'.length
    · exact hlt
    · exact absurd (look_dead hlt) h

end

section
variable {P : Program}

theorem CallAt.weak {f : FuncId} {g g' : List AV → Boxes → M (AV × Boxes)} (h : CallAt P f g)
    (hw : ∀ as B r' B', (g' as B).run = some (r', B') → ∃ r B1, (g as B).run = some (r, B1) ∧ B.length ≤ B'.length ∧ B'.length ≤ B1.length ∧ wkR B1 B' r r' ∧ wkBs B1 B' 0 B') : CallAt P f g' := by
  intro as B r' B' hr
  obtain ⟨r, B1, h1, h2, h3, h4, h5⟩ := hw as B r' B' hr
  obtain ⟨k1, k2, k3⟩ := h as B r B1 h1
  refine ⟨k1, h2, fun X β w vs hS hv => (k3 X β w vs hS hv).mono ?_⟩
  rintro e w' ⟨v, β', rfl, g1, g2, g3, g4⟩
  exact ⟨v, β', rfl, g1.weak h5 h3, wkR_sound g1 h5 h4 g2, ⟨g3.os, g3.tape, g3.output, g3.size, fun c hc hn => ⟨fun ⟨b, q1, q2⟩ => (g3.blk c hc hn).1 ⟨b, wk_live h5 b q1, q2⟩, (g3.blk c hc hn).2⟩, g3.shape⟩, g4⟩

end
end Go.Ev
namespace Go.Ev
set_option linter.unusedVariables false
set_option linter.unusedSimpArgs false
set_option linter.unusedSectionVars false
variable [Ctx]

section
variable {B B' : Boxes}

theorem wk1.eq {a : AV} (h : lessB B'.length a.refs = true) : wk1 B B' a a :=
  match a, h with
  | .top, _ => trivial
  | .d x, h => by cases x <;> exact ⟨rfl, h⟩
  | .sr b off len sz cap, h => ⟨rfl, rfl, rfl, rfl, .inr rfl, by simpa [lessB, AV.refs] using h⟩
  | .ptr .., h => ⟨rfl, h⟩
  | .eptr .., h => ⟨rfl, h⟩
  | .cptr .., h => ⟨rfl, h⟩
  | .agg .., h => ⟨rfl, h⟩
  | .tup .., h => ⟨rfl, h⟩
  | .fn .., h => ⟨rfl, h⟩
  | .snil .., h => ⟨rfl, h⟩
  | .ifc .., h => ⟨rfl, h⟩
  | .mp .., h => ⟨rfl, h⟩

theorem wk1.nil {t : Ty} : wk1 B B' (.d .nils) (.d (.sl t [])) := rfl

theorem wk1.row {t : Ty} {l0 : List t.den} {m : Bool} {b off len : Nat} {cap : Option Nat} (h1 : look B b = .arr t l0 m) (h2 : off + len ≤ l0.length) (h3 : (look B' b).live = false) :
    wk1 B B' (.sr b off len t.size cap) (.d (.sl t ((l0.drop off).take len))) := ⟨l0, m, h1, rfl, h2, rfl, h3⟩

theorem wk1.whole {t : Ty} {l0 : List t.den} {m : Bool} {b len : Nat} {cap : Option Nat} (h1 : look B b = .arr t l0 m) (h2 : len = l0.length) (h3 : (look B' b).live = false) :
    wk1 B B' (.sr b 0 len t.size cap) (.d (.sl t l0)) := ⟨l0, m, h1, rfl, by omega, by rw [h2]; simp, h3⟩

theorem wkL.nil : wkL B B' [] [] := trivial
theorem wkL.cons {a b : AV} {as bs : List AV} (h : wk1 B B' a b) (hs : wkL B B' as bs) : wkL B B' (a :: as) (b :: bs) := ⟨h, hs⟩

theorem lessB_append {n : Nat} {a b : List Nat} : lessB n (a ++ b) = true ↔ lessB n a = true ∧ lessB n b = true := by
  unfold lessB
  rw [List.all_append, Bool.and_eq_true]

theorem wkL.refl : ∀ (as : List AV), lessB B'.length (AV.refs.refsL as) = true → wkL B B' as as
  | [], _ => trivial
  | a :: as, h => by
    simp only [AV.refs.refsL] at h
    obtain ⟨h1, h2⟩ := lessB_append.1 h
    exact ⟨wk1.eq h1, wkL.refl as h2⟩

theorem wkV.agg {as bs : List AV} (h : wkL B B' as bs) : wkV B B' (.agg as) (.agg bs) := h
theorem wkV.one {a b : AV} (h : wk1 B B' a b) : wkV B B' a b := by
  unfold wkV
  split
  · rename_i as bs
    have h' : AV.agg as = AV.agg bs ∧ lessB B'.length (AV.refs (.agg as)) = true := h
    obtain ⟨e, h2⟩ := h'
    cases e
    exact wkL.refl as (by simpa [AV.refs] using h2)
  · exact h

theorem wkVs.nil : wkVs B B' [] [] := trivial
theorem wkVs.cons {a b : AV} {as bs : List AV} (h : wkV B B' a b) (hs : wkVs B B' as bs) : wkVs B B' (a :: as) (b :: bs) := ⟨h, hs⟩
theorem wkVs.refl : ∀ (as : List AV), lessB B'.length (AV.refs.refsL as) = true → wkVs B B' as as
  | [], _ => trivial
  | a :: as, h => by
    simp only [AV.refs.refsL] at h
    obtain ⟨h1, h2⟩ := lessB_append.1 h
    exact ⟨wkV.one (wk1.eq h1), wkVs.refl as h2⟩
theorem wkR.tup {as bs : List AV} (h : wkVs B B' as bs) : wkR B B' (.tup as) (.tup bs) := h
theorem wkR.one {a b : AV} (h : wkV B B' a b) : wkR B B' a b := by
  unfold wkR
  split
  · rename_i as bs
    have h' : AV.tup as = AV.tup bs ∧ lessB B'.length (AV.refs (.tup as)) = true := h
    obtain ⟨e, h2⟩ := h'
    cases e
    exact wkVs.refl as (by simpa [AV.refs] using h2)
  · exact h

theorem wkBox.cells {l l' : List AV} (h : wkL B B' l l') : wkBox B B' (.cells l) (.cells l') := h

end

inductive Sh where
  | val (t : Ty)
  | ptr

def normA (s : Sh) (a : AV) : AV := match s, a with
  | .val t, .agg cs => .agg (normCs (cellTys t) cs)
  | .val t, a => normC t a
  | .ptr, a => a

def normAs : List Sh → List AV → List AV
  | s :: ss, a :: as => normA s a :: normAs ss as
  | _, as => as

def normB : List Ty → Boxes → Boxes
  | t :: ts, x :: xs => normX t x :: normB ts xs
  | _, xs => xs

def normS (ss : List Sh) (ts : List Ty) (g : List AV → Boxes → M (AV × Boxes)) : List AV → Boxes → M (AV × Boxes) := fun as B => g (normAs ss as) (normB ts B)

section
variable {X : Blocks} {β : Map} {N : Nat → Prop} {w : World}

theorem normA_sound (s : Sh) {a : AV} {v : Value} (h : VR X β N w a v) : VR X β N w (normA s a) v := by
  unfold normA
  split
  · obtain ⟨vs, rfl, h2⟩ := VR.agg_iff.1 h
    exact VR.agg_iff.2 ⟨vs, rfl, normCs_sound _ _ _ h2⟩
  · exact normC_sound _ h
  · exact h

theorem normAs_sound : ∀ (ss : List Sh) (as : List AV) (vs : List Value), VRs X β N w as vs → VRs X β N w (normAs ss as) vs
  | s :: ss, a :: as, [], h => by unfold VRs at h; exact h.elim
  | s :: ss, a :: as, v :: vs, h => by
    unfold VRs at h
    unfold normAs VRs
    exact ⟨normA_sound s h.1, normAs_sound ss as vs h.2⟩
  | [], as, vs, h => by cases as <;> exact h
  | s :: ss, [], vs, h => h

theorem normB_len : ∀ (ts : List Ty) (B : Boxes), (normB ts B).length = B.length
  | t :: ts, x :: xs => by simp [normB, normB_len ts xs]
  | [], xs => by cases xs <;> rfl
  | t :: ts, [] => rfl

theorem normB_look : ∀ (ts : List Ty) (B : Boxes) (b : Nat), look (normB ts B) b = look B b ∨ ∃ t l, look B b = .cells l ∧ look (normB ts B) b = .cells (normCs (cellTys t) l)
  | t :: ts, x :: xs, 0 => by
    cases x with
    | cells l => exact .inr ⟨t, l, rfl, rfl⟩
    | dead => exact .inl rfl
    | arr => exact .inl rfl
    | keys => exact .inl rfl
  | t :: ts, x :: xs, b + 1 => by
    have := normB_look ts xs b
    simpa [look, normB] using this
  | [], xs, b => .inl (by cases xs <;> rfl)
  | t :: ts, [], b => .inl rfl

theorem normB_live (ts : List Ty) (B : Boxes) (b : Nat) : (look (normB ts B) b).live = (look B b).live := by
  rcases normB_look ts B b with h | ⟨t, l, h1, h2⟩
  · rw [h]
  · rw [h1, h2]; rfl

theorem normB_own (ts : List Ty) (B : Boxes) : Own β (look (normB ts B)) = Own β (look B) := by
  funext c
  simp only [Own, normB_live]

theorem normB_all (ts : List Ty) (B : Boxes) : All X β (look (normB ts B)) = All X β (look B) := by
  funext c
  simp only [All, normB_own]

theorem SimB.norm (ts : List Ty) {B : Boxes} (hS : SimB X β N w (look B)) : SimB X β N w (look (normB ts B)) := by
  refine ⟨fun c h => hS.apart c (by rw [← normB_own ts B]; exact h), fun b b' c h1 h2 => hS.inj b b' c (by rw [← normB_live ts B]; exact h1) (by rw [← normB_live ts B]; exact h2), fun b => ?_, fun b h => ?_, hS.old, hS.tabs.1, fun c hc => by rw [normB_own]; exact hS.tabs.2 c hc⟩
  · rw [normB_all]
    rcases normB_look ts B b with h | ⟨t, l, h1, h2⟩
    · rw [h]; exact hS.box b
    · rw [h2]
      have := hS.box b
      rw [h1] at this
      obtain ⟨c, arr, e, g1, g2, g3, g4⟩ := this
      refine ⟨c, arr, e, g1, g2, by rw [g3, normCs_len], fun j a v ha hv => ?_⟩
      obtain ⟨a0, t0, k1, k2⟩ := normCs_get _ _ j a ha
      rcases k2 with rfl | rfl
      · exact ⟨normC_sound t0 (g4 j a0 v k1 hv).1, (g4 j a0 v k1 hv).2⟩
      · exact g4 j a v k1 hv
  · refine hS.dom b fun hd => h ?_
    rcases normB_look ts B b with h' | ⟨t, l, h1, h2⟩
    · rw [h', hd]
    · rw [h1] at hd; cases hd

end

section
variable {P : Program}

theorem CallAt.norm {f : FuncId} {g : List AV → Boxes → M (AV × Boxes)} (h : CallAt P f g) (ss : List Sh) (ts : List Ty) : CallAt P f (normS ss ts g) := by
  intro as B r B' hr
  obtain ⟨k1, k2, k3⟩ := h _ _ r B' hr
  rw [normB_len] at k2
  refine ⟨k1, k2, fun X β w vs hS hv => ?_⟩
  have := k3 X β w vs (by rw [normB_len]; exact hS.norm ts) (by rw [normB_len, normB_all]; exact normAs_sound ss as vs hv)
  rw [normB_own, normB_len] at this
  exact this

theorem CallAt.weakE {f : FuncId} {g : Nat → List AV → Boxes → M (AV × Boxes)} {g' : List AV → Boxes → M (AV × Boxes)} (h : ∀ n, CallAt P f (g n))
    (hw : ∀ as B r' B', (g' as B).run = some (r', B') → ∃ n r B1, (g n as B).run = some (r, B1) ∧ B.length ≤ B'.length ∧ B'.length ≤ B1.length ∧ wkR B1 B' r r' ∧ wkBs B1 B' 0 B') : CallAt P f g' := by
  intro as B r' B' hr
  obtain ⟨n, r, B1, h1, h2, h3, h4, h5⟩ := hw as B r' B' hr
  obtain ⟨k1, k2, k3⟩ := h n as B r B1 h1
  refine ⟨k1, h2, fun X β w vs hS hv => (k3 X β w vs hS hv).mono ?_⟩
  rintro e w' ⟨v, β', rfl, g1, g2, g3, g4⟩
  exact ⟨v, β', rfl, g1.weak h5 h3, wkR_sound g1 h5 h4 g2, ⟨g3.os, g3.tape, g3.output, g3.size, fun c hc hn => ⟨fun ⟨b, q1, q2⟩ => (g3.blk c hc hn).1 ⟨b, wk_live h5 b q1, q2⟩, (g3.blk c hc hn).2⟩, g3.shape⟩, g4⟩

end
end Go.Ev
namespace Go.Ev
set_option linter.unusedVariables false
set_option linter.unusedSimpArgs false
set_option linter.unusedSectionVars false
variable [Ctx]

section
variable {P : Program} [TagOK P]

def cloneR (ty : Ty) (bytes : Nat) : List AV → Boxes → M (AV × Boxes) := fun xs B => match xs, B with
  | [.d .nils], [] => .ret (.sr 0 0 0 ty.size none, [.arr ty [] true])
  | [.d (.sl t l)], [] => .ifb (decide (t = ty)) (.chk (decide (l.length * bytes ≤ 70368744177664)) (.ret (.sr 0 0 l.length t.size none, [.arr t l true])))
  | _, _ => .fail

theorem clone_run4 {ty : Ty} (h : 0 < ty.size) {bytes : Nat} (b : FuncId → Bool) (call : Caller) (l : List ty.den) (hl : l.length * bytes ≤ 70368744177664) : ∃ env' B', (evC b call 1 0 noHd (cloneC3 ty bytes) (cloneEnv (.sl ty l) false) []).run = some (.ret, env', B') ∧ (finish 0 false [(2, none)] env' B').run = some (.sr 0 0 l.length ty.size none, [.arr ty l true]) := by
  have hb : Nat.blt 0 ty.size = true := by rw [Nat.blt, Nat.ble_eq]; exact h
  refine ⟨outEnv3 (.sl ty l) (.sr 1 0 l.length ty.size none) (.sr 0 0 0 ty.size none), [.dead, .arr ty l true], ?_, rfl⟩
  simp [cloneC3, cloneEnv, evC, evOps, evOper, evOp, hb, M.ifb, M.bind, M.run, cellsD, litRow, setD, upd, setE, rdA, content, look, M.chk, splice, outEnv3, hl, litCap]

theorem clone_row (hm : P.follows .mixedOrders = true) {f : FuncId} {fn : Func} {T T2 e : TypeId} {ty : Ty} {bytes i0 i1 i2 l3 : Nat} {o0 o1 o2 o3 : Oper} {c3 : Code} (hf : P.funcs[f]? = some fn)
    (hbody : fn.body = some (.seq (.region i0 #[o0] false) (.seq (.seq (.region i1 #[o1, o2] false) (.cond (.tmp 4) (.seq (.region i2 #[o3] false) .ret) .skip)) c3))) (hres : fn.results = #[.tmp 2]) (hn : fn.ntmps = 8) (hname : (fn.name == "runtime.NumGoroutine") = false)
    (h0 : o0.op = .assign (.const (.slice none 0 0)) ∧ o0.dst = some 2 ∧ o0.guard = none) (h3 : o3.op = .assign (.const (.slice none 0 0)) ∧ o3.dst = some 2 ∧ o3.guard = none) (h1 : o1.op = .move (.tmp 0) ∧ o1.dst = some 3 ∧ o1.guard = none) (h2 : o2.op = .binOp .eql T (.tmp 3) (.const (.slice none 0 0)) T2 ∧ o2.dst = some 4 ∧ o2.guard = none)
    (hT : P.underlying T = some (.slice e)) (hty : 0 < ty.size) (hc3 : compC P 4 c3 0 [] = some (cloneC3 ty bytes, l3)) : CallAt P f (cloneR ty bytes) := by
  intro as B r B' hr
  obtain ⟨x, l, rfl, rfl, rfl, rfl, hxl, hlen⟩ : ∃ (x : D) (l : List ty.den), as = [.d x] ∧ B = [] ∧ r = .sr 0 0 l.length ty.size none ∧ B' = [.arr ty l true] ∧ ((x = .nils ∧ l = []) ∨ x = .sl ty l) ∧ l.length * bytes ≤ 70368744177664 := by
    unfold cloneR at hr
    split at hr
    · simp only [M.run, Option.some.injEq, Prod.mk.injEq] at hr
      exact ⟨_, [], rfl, rfl, hr.1.symm, hr.2.symm, .inl ⟨rfl, rfl⟩, by simp⟩
    · rename_i t l
      obtain ⟨h1, h2⟩ := (M.run_ifb _ _ _).1 hr
      obtain ⟨h3, h4⟩ := (M.run_chk _ _ _).1 h2
      have := of_decide_eq_true h1
      subst this
      simp only [M.run, Option.some.injEq, Prod.mk.injEq] at h4
      exact ⟨_, l, rfl, rfl, h4.1.symm, h4.2.symm, .inr rfl, of_decide_eq_true h3⟩
    · simp [M.run] at hr
  refine ⟨⟨fn, hf, by simp [hbody], hname⟩, Nat.zero_le _, fun X β w vs hS hv => ?_⟩
  have hX : ∀ c, X c → c < w.heap.size := hS.old
  have hI : Ctx.inv w ∧ ∀ c, Ctx.tab c → c < w.heap.size := ⟨hS.tabs.1, fun c hc => (hS.tabs.2 c hc).1⟩
  obtain ⟨v, rfl, hv1⟩ := VRs.one hv
  have hvx : VRd X w x v := (VR.d_iff.1 hv1).anti fun c h => .inl h
  have own0 : ∀ β0 : Map, Own β0 (look []) = fun _ => False := fun β0 => by
    funext c
    exact propext ⟨fun h => own_empty h, fun h => h.elim⟩
  have hx : (v = .slice none 0 0 ∧ (x = .nils ∨ x = .sl ty []) ∧ l = []) ∨ (∃ a n c, v = .slice (some a) n c ∧ x = .sl ty l) := by
    rcases hxl with ⟨rfl, rfl⟩ | rfl
    · exact .inl ⟨hvx, .inl rfl, rfl⟩
    · have hq : RD X w (.sl ty) l (fun _ => some v) := hvx
      obtain ⟨v', e', hh⟩ := RD.slice hq
      simp only [Option.some.injEq] at e'
      subst e'
      rcases hh with ⟨q, qc, rfl, hq0, rfl⟩ | ⟨c, off, cap, rfl, _⟩
      · cases q with
        | none => rw [hq0 rfl]; exact .inl ⟨rfl, .inr rfl, rfl⟩
        | some a => exact .inr ⟨_, _, _, rfl, rfl⟩
      · exact .inr ⟨_, _, _, rfl, rfl⟩
  refine calls_of_wp hf hbody ?_
  refine wp_seq (wp_region_list (wpList_step fun K hK => ?_))
  rw [if_pos (by simp [Region.wanted, h0.2.2])]
  have e0 : ∀ (ρ : Operand → Value) (w : World), (∀ u, ρ (.const u) = u) → (execOp ρ o0).run P w = .ok (.value (.slice none 0 0)) w := by
    intro ρ w hρ
    simp [execOp, h0.1, hρ]
  unfold Oper.wp
  rw [e0 _ _ (fun u => rfl), Oper.upon_value]
  refine hK _ _ (wpList_nil ?_)
  refine wp_seq (wp_seq (wp_region_list (wpList_step fun K hK => ?_)))
  rw [if_pos (by simp [Region.wanted, h1.2.2])]
  have e1 : ∀ (ρ : Operand → Value) (w : World), (execOp ρ o1).run P w = .ok (.value (ρ (.tmp 0))) w := by
    intro ρ w
    simp [execOp, h1.1]
  unfold Oper.wp
  rw [e1, Oper.upon_value]
  refine hK _ _ (wpList_step fun K hK => ?_)
  rw [if_pos (by simp [Region.wanted, h2.2.2])]
  have e2 : ∀ (ρ : Operand → Value) (w : World) q n c, (∀ u, ρ (.const u) = u) → ρ (.tmp 3) = .slice q n c → (execOp ρ o2).run P w = .ok (.value (.bool q.isNone)) w := by
    intro ρ w q n c hρ hs
    have he := run_equal_slice_nil (P := P) w T e q n c hT
    have hg := run_eqGuard_int (P := P) (w := w) .eql T (.tmp 3) (.const (.slice none 0 0)) (.slice q n c) (.slice none 0 0) ⟨by simp, by simp⟩
    simp [execOp, h2.1, hρ, hs, Sem.run_bind, hg, binOp, he]
  have hv0 : ∃ q n c, v = .slice q n c ∧ (q.isNone = true → l = []) ∧ (q.isNone = false → x = .sl ty l) := by
    rcases hx with ⟨rfl, _, hx⟩ | ⟨a, n, c, rfl, rfl⟩
    · exact ⟨none, 0, 0, rfl, fun _ => hx, fun h => (nomatch h)⟩
    · exact ⟨some a, n, c, rfl, fun h => (nomatch h), fun _ => rfl⟩
  obtain ⟨q, nn, cc, rfl, hq1, hq2⟩ := hv0
  unfold Oper.wp
  rw [e2 _ _ q nn cc (fun u => rfl) (by simp [Act.eval, Act.put, h0.2.1, h1.2.1, hn]), Oper.upon_value]
  refine hK _ _ (wpList_nil ?_)
  have hA : SimA X (fun _ => none) (· < ([] : Boxes).length) w (cloneEnv x q.isNone) { tmps := #[.slice q nn cc, undef, .slice none 0 0, .slice q nn cc, .bool q.isNone, undef, undef, undef], defers := [] } [] := by
    have hu : ∀ {Y : Blocks}, VR Y (fun _ => none) (· < ([] : Boxes).length) w (.tup []) undef := VR.tup_iff.2 ⟨#[], rfl, by unfold VRs; trivial⟩
    have hall : ∀ c, All X (fun _ => none) (look []) c → X c := fun c h => h.elim id fun h => (own_empty h).elim
    have hxx : VR (All X (fun _ => none) (look [])) (fun _ => none) (· < ([] : Boxes).length) w (.d x) (.slice q nn cc) := VR.d_iff.2 (hvx.anti hall)
    refine ⟨SimB.empty hX hI, rfl, ?_⟩
    refine (VRs.slots (tmps := #[_, _, _, _, _, _, _, _]) ?_).2
    unfold cloneEnv
    refine VRs.mk _ _ rfl fun j a v ha hv => ?_
    match j with
    | 0 => simp at ha hv; subst ha; subst hv; exact hxx
    | 1 => simp at ha hv; subst ha; subst hv; exact hu
    | 2 => simp at ha hv; subst ha; subst hv; exact VR.d_iff.2 rfl
    | 3 => simp at ha hv; subst ha; subst hv; exact hxx
    | 4 => simp at ha hv; subst ha; subst hv; exact VR.d_iff.2 rfl
    | 5 => simp at ha hv; subst ha; subst hv; exact hu
    | 6 => simp at ha hv; subst ha; subst hv; exact hu
    | 7 => simp at ha hv; subst ha; subst hv; exact hu
    | j + 8 => simp at ha
  have hput : (({ tmps := [Value.slice q nn cc].toArray ++ Array.replicate (fn.ntmps - [Value.slice q nn cc].toArray.size) undef, defers := [] } : Act).put o0.dst (.slice none 0 0) |>.put o1.dst (.slice q nn cc) |>.put o2.dst (.bool q.isNone)) =
      { tmps := #[.slice q nn cc, undef, .slice none 0 0, .slice q nn cc, .bool q.isNone, undef, undef, undef], defers := [] } := by
    rw [h0.2.1, h1.2.1, h2.2.1, hn]
    rfl
  have hmv : ((({ tmps := [Value.slice q nn cc].toArray ++ Array.replicate (fn.ntmps - [Value.slice q nn cc].toArray.size) undef, defers := [] } : Act).put o0.dst (.slice none 0 0)).eval (.tmp 0)) = .slice q nn cc := by
    rw [h0.2.1, hn]
    rfl
  rw [hmv, hput]
  refine wp_cond (t := q.isNone) rfl ?_
  have hrs : resTmps P fn.results.toList = some [(2, none)] := by rw [hres]; rfl
  have post : ∀ (env' : Env) (B' : Boxes) (β' : Map) (N' : Nat → Prop) (a' : Act) (w' : World), (finish 0 false [(2, none)] env' B').run = some (.sr 0 0 l.length ty.size none, [.arr ty l true]) → Way X 0 (fun _ => none) w [] [] β' N' env' B' a' w' →
      bodyPost P fn (fun e w' => ∃ v β', e = .returned v ∧ SimB X β' (· < [Box.arr ty l true].length) w' (look [.arr ty l true]) ∧ VR (All X β' (look [.arr ty l true])) β' (· < [Box.arr ty l true].length) w' (.sr 0 0 l.length ty.size none) v ∧ Fr (Own β (look [])) w (Own β' (look [.arr ty l true])) w' ∧ ∀ b, b < ([] : Boxes).length → β' b = β b) .ret a' w' := by
    intro env' B' β' N' a' w' hfin hw
    obtain ⟨v', β2, g1, g2, g3, g4, _⟩ := finish_sound (fn := fn) hw.sim hrs hfin
    have hF := hw.fr.trans g4
    rw [own0] at hF
    exact ⟨hw.defers, v', g1, v', β2, rfl, g2, g3, by rw [own0]; exact hF, fun b hb => absurd hb (Nat.not_lt_zero b)⟩
  cases hq : q.isNone with
  | true =>
    refine wp_seq (wp_region_list (wpList_step fun K hK => ?_))
    rw [if_pos (by simp [Region.wanted, h3.2.2])]
    have e3 : ∀ (ρ : Operand → Value) (w : World), (∀ u, ρ (.const u) = u) → (execOp ρ o3).run P w = .ok (.value (.slice none 0 0)) w := by
      intro ρ w hρ
      simp [execOp, h3.1, hρ]
    unfold Oper.wp
    rw [e3 _ _ (fun u => rfl), Oper.upon_value]
    refine hK _ _ (wpList_nil ?_)
    refine wp_ret ?_
    rw [h3.2.1]
    have hl := hq1 hq
    subst hl
    have hlive : ∀ b, (fun _ => none : Map) b = none := fun _ => rfl
    refine ⟨rfl, .slice none 0 0, ?_, .slice none 0 0, fun _ => none, rfl, ⟨?_, ?_, ?_, ?_, hX, hI.1, ?_⟩, ?_, ?_, fun b hb => absurd hb (Nat.not_lt_zero b)⟩
    · rw [results_tmp hres]; rfl
    · rintro c ⟨b, _, h⟩; cases h
    · intro b b' c _ _ h; cases h
    · intro b
      match b with
      | 0 => exact ⟨hty, .inl ⟨rfl, rfl⟩⟩
      | b + 1 => trivial
    · intro b hb
      match b with
      | 0 => show 0 < 1; omega
      | b + 1 => exact absurd rfl hb
    · intro c hc
      exact ⟨hI.2 c hc, fun ⟨b, _, h⟩ => by cases h⟩
    · exact VR.sr_iff.2 ⟨by show 0 < 1; omega, hty, .inl ⟨rfl, rfl, rfl, rfl, rfl⟩⟩
    · rw [own0]
      have : Own (fun _ => none) (look [Box.arr ty [] true]) = fun _ => False := by
        funext c
        exact propext ⟨fun ⟨b, _, h⟩ => (by cases h), fun h => h.elim⟩
      rw [this]
      exact Fr.refl _ _
  | false =>
    rw [hq] at hA
    have := hq2 hq
    subst this
    obtain ⟨env', B', k1, k2⟩ := clone_run4 hty (bytes := bytes) (fun _ => false) (fun _ _ _ => .fail) l hlen
    refine wp_skip ?_
    exact evC_sound hm (none_ok P) 1 0 noHd c3 4 0 [] _ _ hc3 hA (fun b h => h) (fun b h => absurd h (by omega)) k1 fun β' N' a' w' hw => post env' B' β' N' a' w' k2 hw

theorem cloneR_at (hm : P.follows .mixedOrders = true) {f : FuncId} {fn : Func} (T T2 e : TypeId) (ty : Ty) (bytes : Nat) (hf : P.funcs[f]? = some fn) (hsome : (fn.body.bind cloneParts).isSome = true) (hres : fn.results = #[.tmp 2]) (hn : fn.ntmps = 8) (hname : (fn.name == "runtime.NumGoroutine") = false)
    (h01 : ((fn.body.bind cloneParts).get hsome).o0.op = .assign (.const (.slice none 0 0))) (h02 : ((fn.body.bind cloneParts).get hsome).o0.dst = some 2) (h03 : ((fn.body.bind cloneParts).get hsome).o0.guard = none)
    (h11 : ((fn.body.bind cloneParts).get hsome).o1.op = .move (.tmp 0)) (h12 : ((fn.body.bind cloneParts).get hsome).o1.dst = some 3) (h13 : ((fn.body.bind cloneParts).get hsome).o1.guard = none)
    (h21 : ((fn.body.bind cloneParts).get hsome).o2.op = .binOp .eql T (.tmp 3) (.const (.slice none 0 0)) T2) (h22 : ((fn.body.bind cloneParts).get hsome).o2.dst = some 4) (h23 : ((fn.body.bind cloneParts).get hsome).o2.guard = none)
    (h31 : ((fn.body.bind cloneParts).get hsome).o3.op = .assign (.const (.slice none 0 0))) (h32 : ((fn.body.bind cloneParts).get hsome).o3.dst = some 2) (h33 : ((fn.body.bind cloneParts).get hsome).o3.guard = none)
    (hT : P.underlying T = some (.slice e)) (hty : Nat.ble 1 ty.size = true) (hc3 : (compC P 4 ((fn.body.bind cloneParts).get hsome).c3 0 []).map (·.1) = some (cloneC3 ty bytes)) : CallAt P f (cloneR ty bytes) := by
  have hp : fn.body.bind cloneParts = some ((fn.body.bind cloneParts).get hsome) := (Option.some_get hsome).symm
  generalize (fn.body.bind cloneParts).get hsome = p at *
  cases hb : fn.body with
  | none => rw [hb] at hp; cases hp
  | some c =>
    rw [hb] at hp
    have := cloneParts_spec (c := c) hp
    obtain ⟨⟨a3, l3⟩, hc3, e3⟩ := Option.map_eq_some_iff.1 hc3
    simp only at e3
    subst e3
    exact (clone_row hm hf (by rw [hb, this]) hres hn hname ⟨h01, h02, h03⟩ ⟨h31, h32, h33⟩ ⟨h11, h12, h13⟩ ⟨h21, h22, h23⟩ hT (Nat.le_of_ble_eq_true hty) hc3)

end
end Go.Ev
namespace Go.Ev
set_option linter.unusedVariables false
set_option linter.unusedSimpArgs false
set_option linter.unusedSectionVars false
variable [Ctx]

def padR (t : Ty) (j n : Nat) : AV → Option AV
  | .tup xs => match xs[j]? with
    | some (.d .nils) => some (.tup (xs.set j (.sr n 0 0 t.size none)))
    | _ => none
  | .d .nils => some (.sr n 0 0 t.size none)
  | _ => none

def padP (t : Ty) (j : Nat) (r : AV) (B : Boxes) : AV × Boxes := match padR t j B.length r with
  | some r' => (r', B ++ [.arr t [] true])
  | none => (r, B)

def padM (t : Ty) (j : Nat) (m : M (AV × Boxes)) : M (AV × Boxes) :=
  .ifb (Nat.blt 0 t.size) (m.bind fun (r, B) => .ret (padP t j r B))

theorem padM_run {t : Ty} {j : Nat} {m : M (AV × Boxes)} {r r' : AV} {B B' : Boxes} (ht : Nat.blt 0 t.size = true) (h : m.run = some (r, B)) (h2 : padP t j r B = (r', B')) : (padM t j m).run = some (r', B') := by
  unfold padM
  rw [M.run_ifb]
  refine ⟨ht, ?_⟩
  rw [M.run_bind, h]
  simp only [Option.bind_some, M.run, h2]

section
variable {X : Blocks} {β : Map} {w : World} {L : Looks}

theorem nilBox {n : Nat} {t : Ty} (hS : SimB X β (· < n) w L) (ht : 0 < t.size) :
    ∃ β' : Map, SimB X β' (· < n + 1) w (updL L n (.arr t [] true)) ∧ β' n = none ∧ Fr (Own β L) w (Own β' (updL L n (.arr t [] true))) w ∧ ∀ b, b < n → β' b = β b := by
  have hal : ¬ n < n := Nat.lt_irrefl n
  have hd : L n = .dead := by
    cases hl : L n with
    | dead => rfl
    | _ => exact (hal (hS.dom n (by rw [hl]; simp))).elim
  let β' : Map := fun b => if b = n then none else β b
  have hβ : ∀ b, b < n → b < n + 1 ∧ β' b = β b := fun b hb => ⟨by omega, if_neg fun (e : b = n) => by omega⟩
  have hne : ∀ b, (updL L n (.arr t [] true) b).live = true → β' b ≠ none → (L b).live = true ∧ β' b = β b ∧ b ≠ n := by
    intro b h1 h2
    by_cases e : b = n
    · exact (h2 (if_pos e)).elim
    · exact ⟨by simpa [updL, e] using h1, if_neg e, e⟩
  have hown : ∀ c, Own β' (updL L n (.arr t [] true)) c → Own β L c := by
    rintro c ⟨b, h1, h2⟩
    obtain ⟨g1, g2, _⟩ := hne b h1 (by rw [h2]; simp)
    exact ⟨b, g1, by rw [← g2]; exact h2⟩
  have hf : Fr (Own β L) w (Own β' (updL L n (.arr t [] true))) w := ⟨rfl, rfl, rfl, Nat.le_refl _, fun c hc h => ⟨fun h' => h (hown c h'), rfl⟩, fun c arr e fz h => ⟨arr, fz, h, rfl⟩⟩
  have mv := mv_of (X := X) (N := (· < n)) (N' := (· < n + 1)) hf hβ
  refine ⟨β', ⟨fun c h => hS.apart c (hown c h), ?_, ?_, ?_, hS.old, hS.tabs' hf⟩, if_pos rfl, hf, fun b hb => (hβ b hb).2⟩
  · intro b b' c l1 l2 e1 e2
    obtain ⟨g1, g2, _⟩ := hne b l1 (by rw [e1]; simp)
    obtain ⟨k1, k2, _⟩ := hne b' l2 (by rw [e2]; simp)
    exact hS.inj b b' c g1 k1 (by rw [← g2]; exact e1) (by rw [← k2]; exact e2)
  · intro b
    by_cases e : b = n
    · subst e
      rw [show updL L b (.arr t [] true) b = .arr t [] true from if_pos rfl]
      exact ⟨ht, .inl ⟨if_pos rfl, rfl⟩⟩
    · rw [show updL L n (.arr t [] true) b = L b from if_neg e]
      by_cases hl : L b = .dead
      · rw [hl]; trivial
      · exact (hS.box b).move mv (hS.dom b hl) fun _ _ _ => rfl
  · intro b hl
    by_cases e : b = n
    · show b < n + 1; omega
    · have : b < n := hS.dom b (by simpa [updL, e] using hl)
      show b < n + 1; omega

theorem look_app (B : Boxes) (x : Box) : look (B ++ [x]) = updL (look B) B.length x := by
  funext b
  show (B ++ [x]).getD b .dead = if b = B.length then x else B.getD b .dead
  rw [List.getD_eq_getElem?_getD, List.getD_eq_getElem?_getD]
  by_cases h : b = B.length
  · subst h; simp
  · rw [if_neg h]
    by_cases h2 : b < B.length
    · rw [List.getElem?_append_left h2]
    · rw [List.getElem?_eq_none (by simp; omega), List.getElem?_eq_none (by omega)]

end

section
variable {P : Program}

theorem CallAt.pad {f : FuncId} {g : List AV → Boxes → M (AV × Boxes)} (t : Ty) (j : Nat) (h : CallAt P f g) : CallAt P f fun xs B => padM t j (g xs B) := by
  intro xs B r' B' hr
  unfold padM at hr
  obtain ⟨ht, hr⟩ := (M.run_ifb _ _ _).1 hr
  obtain ⟨⟨r, B1⟩, h1, h2⟩ := run_bind_some hr
  simp only [M.run, Option.some.injEq] at h2
  obtain ⟨k1, k2, k3⟩ := h xs B r B1 h1
  unfold padP at h2
  cases hp : padR t j B1.length r with
  | none =>
    rw [hp] at h2
    simp only [Prod.mk.injEq] at h2
    obtain ⟨rfl, rfl⟩ := h2
    exact ⟨k1, k2, k3⟩
  | some r2 =>
    rw [hp] at h2
    simp only [Prod.mk.injEq] at h2
    obtain ⟨rfl, rfl⟩ := h2
    have ht : 0 < t.size := by rw [Nat.blt, Nat.ble_eq] at ht; exact ht
    refine ⟨k1, by simp; omega, fun X β w vs hS hv => (k3 X β w vs hS hv).mono ?_⟩
    rintro e w' ⟨v, β', rfl, g1, g2, g3, g4⟩
    obtain ⟨β2, s1, s2, s3, s4⟩ := nilBox g1 ht
    rw [look_app]
    have mv := mv_of (X := X) (N := (· < B1.length)) (N' := (· < B1.length + 1)) s3 fun b hb => ⟨by omega, s4 b hb⟩
    have hnew : ∀ u, VR (All X β' (look B1)) β' (· < B1.length) w' (.d .nils) u → VR (All X β2 (updL (look B1) B1.length (.arr t [] true))) β2 (· < B1.length + 1) w' (.sr B1.length 0 0 t.size none) u := by
      intro u hu
      have : u = .slice none 0 0 := VR.d_iff.1 hu
      subst this
      exact VR.sr_iff.2 ⟨by omega, ht, .inl ⟨s2, rfl, rfl, rfl, rfl⟩⟩
    refine ⟨v, β2, rfl, by simpa using s1, ?_, g3.trans s3, fun b hb => (s4 b (by omega)).trans (g4 b hb)⟩
    rw [List.length_append, List.length_singleton]
    unfold padR at hp
    split at hp
    · rename_i zs
      split at hp
      · rename_i hz
        cases hp
        obtain ⟨us, rfl, hus⟩ := VR.tup_iff.1 g2
        refine VR.tup_iff.2 ⟨us, rfl, VRs.set j _ _ (VRs.move mv _ _ hus) fun u hu => hnew u ?_⟩
        exact VRs.get _ _ hus j (.d .nils) u hz hu
      · cases hp
    · cases hp
      exact hnew v g2
    · cases hp

theorem CallAt.weakC {f : FuncId} {g : Nat → List AV → Boxes → M (AV × Boxes)} {g' : List AV → Boxes → M (AV × Boxes)} (h : ∀ n, CallAt P f (g n))
    (hw : ∀ xs B r' B', (g' xs B).run = some (r', B') → ∃ n r B1 r1 B2, (g n xs B).run = some (r, B1) ∧ B.length ≤ B'.length ∧ B.length ≤ B2.length ∧ B2.length ≤ B1.length ∧ wkR B1 B2 r r1 ∧ wkBs B1 B2 0 B2 ∧ (compact B.length [r1] B2).run = some ([r'], B')) : CallAt P f g' := by
  intro xs B r' B' hr
  obtain ⟨n, r, B1, r1, B2, h1, h0, h2, h3, h4, h5, h6⟩ := hw xs B r' B' hr
  obtain ⟨k1, k2, k3⟩ := h n xs B r B1 h1
  refine ⟨k1, h0, fun X β w vs hS hv => (k3 X β w vs hS hv).mono ?_⟩
  rintro e w' ⟨v, β', rfl, g1, g2, g3, g4⟩
  have f1 := g1.weak h5 h3
  have f2 := wkR_sound g1 h5 h4 g2
  have f3 : Fr (Own β (look B)) w (Own β' (look B2)) w' := ⟨g3.os, g3.tape, g3.output, g3.size, fun c hc hn => ⟨fun ⟨b, q1, q2⟩ => (g3.blk c hc hn).1 ⟨b, wk_live h5 b q1, q2⟩, (g3.blk c hc hn).2⟩, g3.shape⟩
  obtain ⟨β2, q1, q2, q3, q4⟩ := compact_sound (vs := [v]) f1 h6 (by unfold VRs; exact ⟨f2, by unfold VRs; trivial⟩)
  unfold VRs at q2
  exact ⟨v, β2, rfl, q1, q2.1, f3.trans q3, fun b hb => ((q4 b hb).2).trans (g4 b hb)⟩

end

section
variable {B B' : Boxes}
theorem wk1.live {b off len sz : Nat} {cap : Option Nat} (h : Nat.blt b B'.length = true) : wk1 B B' (.sr b off len sz cap) (.sr b off len sz none) := ⟨rfl, rfl, rfl, rfl, .inl rfl, h⟩
theorem wk1.liveE {b off len len' sz : Nat} {cap : Option Nat} (e : len = len') (h : Nat.blt b B'.length = true) : wk1 B B' (.sr b off len sz cap) (.sr b off len' sz none) := ⟨rfl, rfl, e, rfl, .inl rfl, h⟩
theorem wkBox.arr {t : Ty} {l : List t.den} {m : Bool} : wkBox B B' (.arr t l m) (.arr t l m) := ⟨rfl, id⟩
theorem wkBox.dead {x : Box} : wkBox B B' x .dead := by cases x <;> trivial
end
end Go.Ev
