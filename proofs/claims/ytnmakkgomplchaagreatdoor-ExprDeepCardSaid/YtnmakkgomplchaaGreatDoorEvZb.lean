/- Calls: the evaluator's call is the model's. No condition. -/
import Derived.Test.YtnmakkgomplchaaGreatDoorEvZa
namespace Go.Ev
set_option linter.unusedVariables false
set_option linter.unusedSimpArgs false
set_option linter.unusedSectionVars false
variable [Ctx]

section
variable {P : Program} [TagOK P] {X : Blocks} {byref : FuncId → Bool} {call : Caller}

theorem compact_len {k0 : Nat} {env env' : Env} {B B' : Boxes} (hr : (compact k0 env B).run = some (env', B')) : k0 ≤ B'.length := by
  unfold compact at hr
  simp only at hr
  generalize reachGo B 1000 [] (List.range k0 ++ AV.refs.refsL env) = rs at hr
  obtain ⟨h1, h2⟩ := (M.run_ifb _ _ _).1 hr
  obtain ⟨env1, h3, h4⟩ := run_bind_some h2
  obtain ⟨B1, h5, h6⟩ := run_bind_some h4
  simp only [M.run, Option.some.injEq, Prod.mk.injEq] at h6
  obtain ⟨rfl, rfl⟩ := h6
  have hl : B1.length = rs.length := by
    unfold pickBoxes at h5
    obtain ⟨_, h7⟩ := (M.run_ifb _ _ _).1 h5
    split at h7
    · rename_i x hx
      simp only [M.run, Option.some.injEq] at h7
      subst h7
      have := (renBoxes_get _ _ _ hx).1
      simpa using this
    · simp [M.run] at h7
  rw [hl]
  cases k0 with
  | zero => exact Nat.zero_le _
  | succ k =>
    simp only [List.all_eq_true] at h1
    have := h1 k (List.mem_range.2 (Nat.lt_succ_self k))
    have h7 : rs[k]? = some k := by simpa using this
    exact (List.getElem?_eq_some_iff.1 h7).1

/-- One result. -/
def oneResult (tmps : Array Value) : ResultVar → Sem Value
  | .tmp t => pure (tmps.getD t undef)
  | .cell a t => do loadVar t (← asAddr (tmps.getD a undef))

theorem results_eq (fn : Func) (tmps : Array Value) : results fn tmps = (do
    let vs ← fn.results.mapM (oneResult tmps)
    pure (if h : vs.size = 1 then vs[0] else .tuple vs)) := by
  unfold results
  congr 1

theorem resVals_sound {β : Map} {N : Nat → Prop} {w : World} {env : Env} {a : Act} {B : Boxes} (hS : SimA X β N w env a B) : ∀ (rs : List ResultVar) (cs : List (Nat × Option (Bool × Nat))) (vals : List AV), resTmps P rs = some cs → (resVals env B cs).run = some vals →
    ∃ us : List Value, (rs.mapM (oneResult a.tmps)).run P w = .ok us w ∧ VRs (All X β (look B)) β N w vals us
  | [], cs, vals, hc, hr => by
    simp only [resTmps, Option.some.injEq] at hc
    subst hc
    simp only [resVals, M.run, Option.some.injEq] at hr
    subst hr
    exact ⟨[], by rw [List.mapM_nil]; rfl, by unfold VRs; trivial⟩
  | .tmp t :: rs, cs, vals, hc, hr => by
    simp only [resTmps] at hc
    split at hc
    · rename_i l hl
      simp only [Option.some.injEq] at hc
      subst hc
      simp only [resVals] at hr
      obtain ⟨v, h1, h2⟩ := run_bind_some hr
      obtain ⟨vs, h3, h4⟩ := run_bind_some h2
      simp only [M.run, Option.some.injEq] at h4
      subst h4
      simp only [resVal, M.run, Option.some.injEq] at h1
      subst h1
      obtain ⟨us, g1, g2⟩ := resVals_sound hS rs l vs hl h3
      refine ⟨a.tmps.getD t undef :: us, ?_, ?_⟩
      · rw [List.mapM_cons, Sem.run_bind]
        have : (oneResult a.tmps (.tmp t)).run P w = .ok (a.tmps.getD t undef) w := rfl
        rw [this]
        simp only [Result.andThen_ok]
        rw [Sem.run_bind, g1]
        rfl
      · unfold VRs
        exact ⟨hS.slot t, g2⟩
    · cases hc
  | .cell p t :: rs, cs, vals, hc, hr => by
    simp only [resTmps] at hc
    split at hc
    · rename_i n l hn hl
      split at hc
      · rename_i hu
        simp only [Option.some.injEq] at hc
        subst hc
        simp only [resVals] at hr
        obtain ⟨v, h1, h2⟩ := run_bind_some hr
        obtain ⟨vs, h3, h4⟩ := run_bind_some h2
        simp only [M.run, Option.some.injEq] at h4
        subst h4
        obtain ⟨us, g1, g2⟩ := resVals_sound hS rs l vs hl h3
        simp only [resVal] at h1
        obtain ⟨⟨cs, rd⟩, k1, k2⟩ := run_bind_some h1
        obtain ⟨c, off, hp, hlen, hcell⟩ := cellsAt_sound k1 hS.heap (hS.slot p)
        obtain ⟨ws, q1, q2, q3, q4⟩ := rows_of cs hcell
        have hval : (aggT P t = true ∧ v = .agg cs) ∨ (aggT P t = false ∧ cs = [v]) := by
          simp only at k2
          split at k2
          · rename_i ha
            simp only [M.run, Option.some.injEq] at k2
            exact .inl ⟨ha, k2.symm⟩
          · rename_i c ha
            simp only [M.run, Option.some.injEq] at k2
            subst k2
            exact .inr ⟨ha, rfl⟩
          · simp [M.run] at k2
        have hload := run_loadVar_any (P := P) hu hn (q1.trans hlen) q4 (fun ha => hval.elim (fun h => by rw [ha] at h; exact absurd h.1 (by simp)) (fun h => by rw [h.2] at hlen; simpa using hlen.symm))
        refine ⟨(if aggT P t then .agg ws.toArray else ws.headD undef) :: us, ?_, ?_⟩
        · rw [List.mapM_cons, Sem.run_bind]
          have : (oneResult a.tmps (.cell p t)).run P w = .ok (if aggT P t then .agg ws.toArray else ws.headD undef) w := by
            show (do loadVar t (← asAddr (a.tmps.getD p undef)) : Sem Value).run P w = _
            rw [hp, Sem.run_bind]
            exact hload
          rw [this]
          simp only [Result.andThen_ok]
          rw [Sem.run_bind, g1]
          rfl
        · unfold VRs
          refine ⟨?_, g2⟩
          rcases hval with ⟨ha, rfl⟩ | ⟨ha, rfl⟩
          · rw [if_pos ha]; exact VR.agg_iff.2 ⟨_, rfl, q2⟩
          · rw [if_neg (by simp [ha])]
            obtain ⟨u, rfl, hu⟩ := VRs.one q2
            exact hu
      · cases hc
    · cases hc

/-- What a function hands back, as one value. -/
def oneVal (us : List Value) : Value := match us with
  | [u] => u
  | us => .tuple us.toArray

theorem results_sound {fn : Func} {tmps : Array Value} {us : List Value} {w : World} (h : (fn.results.toList.mapM (oneResult tmps)).run P w = .ok us w) : (results fn tmps).run P w = .ok (oneVal us) w := by
  rw [results_eq, Array.mapM_eq_mapM_toList, Sem.run_bind, map_eq_pure_bind, Sem.run_bind, h]
  simp only [Result.andThen_ok]
  rcases us with _ | ⟨u, _ | ⟨v, r⟩⟩ <;> rfl

theorem oneVal_sound {Y : Blocks} {β : Map} {N : Nat → Prop} {w : World} {as : List AV} {us : List Value} (h : VRs Y β N w as us) : VR Y β N w (oneOf as) (oneVal us) := by
  rcases as with _ | ⟨a, _ | ⟨b, r⟩⟩ <;> rcases us with _ | ⟨u, _ | ⟨v, s⟩⟩
  all_goals first
    | exact VR.tup_iff.2 ⟨_, rfl, by simpa using h⟩
    | (have := VRs.len _ _ h; simp at this; done)
    | skip
  unfold VRs at h
  exact h.1

/-- One function. -/
def CallAt (P : Program) (f : FuncId) (g : List AV → Boxes → M (AV × Boxes)) : Prop := ∀ (as : List AV) (B : Boxes) (r : AV) (B' : Boxes), (g as B).run = some (r, B') →
  (∃ fn, P.funcs[f]? = some fn ∧ fn.body.isNone = false ∧ (fn.name == "runtime.NumGoroutine") = false) ∧ B.length ≤ B'.length ∧
  ∀ (X : Blocks) (β : Map) (w : World) (vs : List Value), SimB X β (· < B.length) w (look B) → VRs (All X β (look B)) β (· < B.length) w as vs →
    Calls P f vs.toArray w fun e w' => ∃ v β', e = .returned v ∧ SimB X β' (· < B'.length) w' (look B') ∧ VR (All X β' (look B')) β' (· < B'.length) w' r v ∧
      Fr (Own β (look B)) w (Own β' (look B')) w' ∧ ∀ b, b < B.length → β' b = β b

theorem CallAt.ok {call : Caller} (h : ∀ f, CallAt P f (call f)) : CallOK P call := fun f as B r B' hr => h f as B r B' hr

theorem finish_sound {k0 : Nat} {plain : Bool} {rs : List (Nat × Option (Bool × Nat))} {fn : Func} {env : Env} {B B' : Boxes} {r : AV} {β : Map} {N : Nat → Prop} {w : World} {a : Act} (hS : SimA X β N w env a B)
    (hrs : resTmps P fn.results.toList = some rs) (hr : (finish k0 plain rs env B).run = some (r, B')) :
    ∃ v β', (results fn a.tmps).run P w = .ok v w ∧ SimB X β' (· < B'.length) w (look B') ∧ VR (All X β' (look B')) β' (· < B'.length) w r v ∧ Fr (Own β (look B)) w (Own β' (look B')) w ∧ ∀ b, b < k0 → β' b = β b := by
  unfold finish at hr
  obtain ⟨vals, h1, h2⟩ := run_bind_some hr
  obtain ⟨⟨vals', ws⟩, h3, h4⟩ := run_bind_some h2
  simp only at h4
  obtain ⟨⟨vs', B1⟩, h5, h6⟩ := run_bind_some h4
  simp only [M.run, Option.some.injEq, Prod.mk.injEq] at h6
  obtain ⟨rfl, rfl⟩ := h6
  obtain ⟨us, g1, g2⟩ := resVals_sound hS _ _ _ hrs h1
  have hsnap : SimB X β N w (updsL (look B) ws) ∧ Fr (Own β (look B)) w (Own β (updsL (look B) ws)) w ∧ VRs (All X β (updsL (look B) ws)) β N w vals' us := by
    split at h3
    · obtain ⟨a1, a2, a3, _⟩ := snapL_sound vals vals' ws us (look B) hS.heap (Cl.refl _) h3 g2
      exact ⟨a1, a2, a3⟩
    · simp only [M.run, Option.some.injEq, Prod.mk.injEq] at h3
      obtain ⟨rfl, rfl⟩ := h3
      exact ⟨hS.heap, Fr.refl _ _, g2⟩
  obtain ⟨s1, s2, s3⟩ := hsnap
  rw [← look_upd] at s1 s2 s3
  obtain ⟨β', c1, c2, c3, c4⟩ := compact_sound s1 h5 s3
  exact ⟨oneVal us, β', results_sound g1, c1, oneVal_sound c2, s2.trans c3, fun b hb => (c4 b hb).2⟩

theorem evCall_at (hm : P.follows .mixedOrders = true) (kinds : FuncId → Bool × Bool) (S : FuncId → Option (List AV → Boxes → M (AV × Boxes))) (hS : ∀ f s, S f = some s → CallAt P f s) :
    ∀ n f, CallAt P f (evCall (fnsOf P kinds) S n f)
  | 0, f => fun as B r B' hr => by simp [evCall, M.run] at hr
  | n + 1, f => fun as B r B' hr => by
    have ih := CallAt.ok (evCall_at hm kinds S hS n)
    simp only [evCall] at hr
    split at hr
    · rename_i s hs
      exact hS f s hs as B r B' hr
    · split at hr
      · simp [M.run] at hr
      · rename_i fn hfn
        unfold fnsOf at hfn
        split at hfn
        · rename_i fd hfd
          unfold compFn at hfn
          split at hfn
          · rename_i c hbody
            split at hfn
            · cases hfn
            · rename_i hname
              split at hfn
              · rename_i rs hrs
                split at hfn
                · rename_i ac la hac
                  simp only [Option.some.injEq] at hfn
                  subst hfn
                  simp only at hr
                  obtain ⟨⟨e, env, B1⟩, h1, h2⟩ := run_bind_some hr
                  simp only at h2
                  have hfin : (∀ id, e ≠ .exit id) ∧ (finish B.length (kinds f).1 rs env B1).run = some (r, B') := by
                    cases e with
                    | exit id => simp [M.run] at h2
                    | normal => exact ⟨fun id h => (by cases h), h2⟩
                    | ret => exact ⟨fun id h => (by cases h), h2⟩
                  obtain ⟨hne, hfin⟩ := hfin
                  refine ⟨⟨fd, hfd, by simp [hbody], by simpa using hname⟩, ?_, ?_⟩
                  · unfold finish at hfin
                    obtain ⟨vals, k1, k2⟩ := run_bind_some hfin
                    obtain ⟨⟨vals', ws⟩, k3, k4⟩ := run_bind_some k2
                    simp only at k4
                    obtain ⟨⟨vs', B2⟩, k5, k6⟩ := run_bind_some k4
                    simp only [M.run, Option.some.injEq, Prod.mk.injEq] at k6
                    obtain ⟨_, rfl⟩ := k6
                    exact compact_len k5
                  · intro X β w vs hB hv
                    refine calls_of_wp hfd hbody ?_
                    have hlv := VRs.len _ _ hv
                    have hA : SimA X β (· < B.length) w (as ++ List.replicate (fd.ntmps - as.length) (.tup [])) { tmps := vs.toArray ++ Array.replicate (fd.ntmps - vs.toArray.size) undef, defers := [] } B := by
                      refine ⟨hB, by simp [hlv], fun i => ?_⟩
                      rw [List.getD_eq_getElem?_getD, List.getElem?_append, Array.getD_eq_getD_getElem?, Array.getElem?_append]
                      simp only [List.size_toArray]
                      rw [hlv]
                      split
                      · rename_i hi
                        have hi' : i < as.length := by omega
                        rw [List.getElem?_eq_getElem hi', List.getElem?_toArray, List.getElem?_eq_getElem hi]
                        exact VRs.get _ _ hv i _ _ (List.getElem?_eq_getElem hi') (List.getElem?_eq_getElem hi)
                      · rw [List.getElem?_replicate, Array.getElem?_replicate]
                        split
                        · exact VR.tup_iff.2 ⟨#[], rfl, by unfold VRs; trivial⟩
                        · exact VR.top_iff.2 trivial
                    refine evC_sound hm ih n B.length c _ _ _ _ _ hac hA (fun b hb => hb) (fun b hb => hb) h1 fun β1 N1 a1 w1 hw => ?_
                    obtain ⟨v, β2, g1, g2, g3, g4, g5⟩ := finish_sound (fn := fd) hw.sim hrs hfin
                    have post : a1.defers = [] ∧ ∃ v, (results fd a1.tmps).run P w1 = .ok v w1 ∧ ∃ v' β', Ending.returned v = .returned v' ∧ SimB X β' (· < B'.length) w1 (look B') ∧ VR (All X β' (look B')) β' (· < B'.length) w1 r v' ∧
                        Fr (Own β (look B)) w (Own β' (look B')) w1 ∧ ∀ b, b < B.length → β' b = β b :=
                      ⟨hw.defers, v, g1, v, β2, rfl, g2, g3, hw.fr.trans g4, fun b hb => (g5 b hb).trans (hw.more b hb).2⟩
                    cases e with
                    | exit id => exact absurd rfl (hne id)
                    | normal => exact post
                    | ret => exact post
                · cases hfn
              · cases hfn
          · cases hfn
        · cases hfn

end
end Go.Ev
