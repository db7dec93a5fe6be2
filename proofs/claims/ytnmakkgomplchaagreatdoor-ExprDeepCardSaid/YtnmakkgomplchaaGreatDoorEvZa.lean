/- Code. No condition. -/
import Derived.Test.YtnmakkgomplchaaGreatDoorEvZ
import Derived.Scope
import Derived.LoopN
namespace Go.Ev
set_option linter.unusedVariables false
set_option linter.unusedSimpArgs false
set_option linter.unusedSectionVars false
variable [Ctx]

section
variable {P : Program} [TagOK P] {X : Blocks} {byref : FuncId → Bool} {call : Caller}

theorem Seq.len {base : Nat} : ∀ (l : List (Nat × AOper × Rec)) (env : Env) (B : Boxes) (env' : Env) (B' : Boxes), Seq byref call base l env B env' B' → B.length ≤ B'.length
  | [], env, B, env', B', h => by obtain ⟨rfl, rfl⟩ := h; exact Nat.le_refl _
  | x :: l, env, B, env', B', h => by
    obtain ⟨e1, B1, h1, h2, h3⟩ := h
    exact Nat.le_trans (evOper_len h1) (Seq.len l e1 B1 env' B' h3)

theorem draw_sound (hm : P.follows .mixedOrders = true) (hok : CallOK P call) {id : Nat} {ops : Array Oper} {as : List AOper} (hc : compOpers P ops ops.toList = some as) (hed : edgesOK 0 (ops.toList.map edgesOf) = true) {Q : Exit → Act → World → Prop}
    {β : Map} {N : Nat → Prop} {w : World} {env env' : Env} {a : Act} {B B' : Boxes} (hS : SimA X β N w env a B) (hN : ∀ b, N b → b < B.length) (hr : (evDraw byref call (ops.toList.map edgesOf) as env B).run = some (env', B'))
    (hQ : ∀ β' N' a' w', Gone X β N w B a.defers β' N' env' B' a' w' → (∀ b, N' b → b < B'.length) → Q .normal a' w') : (Code.region id ops true).wp P Q a w := by
  unfold evDraw at hr
  obtain ⟨⟨e1, B1, recs⟩, h1, h2⟩ := run_bind_some hr
  simp only at h2
  obtain ⟨hap, h3⟩ := (M.run_ifb _ _ _).1 h2
  simp only [M.run, Option.some.injEq, Prod.mk.injEq] at h3
  obtain ⟨rfl, rfl⟩ := h3
  obtain ⟨l, g1, g2, g3, g4⟩ := Seq.of_draw as 0 _ _ _ _ _ h1
  obtain ⟨c1, c2⟩ := compOpers_get _ _ hc
  have hlen : l.length = ops.size := by rw [g2, c1]; simp
  have hpl : (B ++ List.replicate (as.length * room) Box.dead).length = B.length + ops.size * room := by simp [c1]
  refine wp_region_any hm ?_
  have hS2 : SimA X β N { w with drawn := w.drawn + 1 } env a (B ++ List.replicate (as.length * room) Box.dead) := (hS.pad _).same rfl
  refine wpAny_of (base := B.length) hok hed ops.size _ l ?_ (by omega) hS2 g1 ?_
  · refine ⟨by simp, ?_, ?_, ?_, ?_, ?_, ?_⟩
    · intro i hi
      constructor
      · intro _
        have hi' : i < l.length := by omega
        exact ⟨l[i], List.getElem_mem hi', by have := (g4 i l[i] (List.getElem?_eq_getElem hi')).1; omega⟩
      · intro _
        simp [Array.getD_eq_getD_getElem?, hi]
    · intro x hx
      obtain ⟨k, hk, rfl⟩ := List.mem_iff_getElem.1 hx
      obtain ⟨q1, q2, q3⟩ := g4 k _ (List.getElem?_eq_getElem hk)
      have hk' : k < ops.size := by omega
      obtain ⟨ao, r1, r2⟩ := c2 k ops[k] (by simp [hk'])
      have : (l[k]).1 = k := by omega
      rw [this]
      refine ⟨ops[k], Array.getElem?_eq_getElem hk', ?_⟩
      rw [q2] at r1
      simp only [Option.some.injEq] at r1
      rw [r1]; exact r2
    · rw [List.pairwise_iff_getElem]
      intro i j hi hj hij
      obtain ⟨p1, _, p3⟩ := g4 i _ (List.getElem?_eq_getElem hi)
      obtain ⟨q1, _, q3⟩ := g4 j _ (List.getElem?_eq_getElem hj)
      refine ⟨by omega, ?_⟩
      obtain ⟨b, r1, r2⟩ := apartAll_spec recs 0 _ hap i j _ _ hij p3 q3
      have e1 : (l[i]).1 = i := by omega
      have e2 : (l[j]).1 = j := by omega
      rcases r2 with r2 | r2
      · exact .inl ⟨b, by rw [e2]; exact r1, by rw [e1]; simpa using r2⟩
      · exact .inr r2
    · intro i o ho hi
      have hi' : i < ops.size := (Array.getElem?_eq_some_iff.1 ho).1
      simp [Array.getD_eq_getD_getElem?, hi'] at hi
    · intro x hx j hj hN'
      have := hN _ hN'
      omega
    · intro b hb
      have := hN b hb
      omega
  · intro β' N' a' w' hg hN'
    refine hQ β' N' a' w' ⟨hg.sim, hg.defers, ?_, hg.more⟩ fun b hb => ?_
    · have e := hg.fr
      rw [look_pad] at e
      exact ⟨e.os, e.tape, e.output, e.size, e.blk, e.shape⟩
    · have h1 := hN' b hb
      have h2 := Seq.len l _ _ _ _ g1
      rw [hpl] at h2
      omega

/-- From one state to another, where boxes may have been renamed but for the first. -/
structure Way (X : Blocks) (k0 : Nat) (β : Map) (w : World) (B : Boxes) (d : List Deferred) (β' : Map) (N' : Nat → Prop) (env' : Env) (B' : Boxes) (a' : Act) (w' : World) : Prop where
  sim : SimA X β' N' w' env' a' B'
  defers : a'.defers = d
  fr : Fr (Own β (look B)) w (Own β' (look B')) w'
  more : ∀ b, b < k0 → N' b ∧ β' b = β b
  dom : ∀ b, N' b → b < B'.length

theorem Way.trans {k0 : Nat} {β β' β'' : Map} {N' N'' : Nat → Prop} {w w' w'' : World} {B B' B'' : Boxes} {d : List Deferred} {env' env'' : Env} {a' a'' : Act}
    (h : Way X k0 β w B d β' N' env' B' a' w') (k : Way X k0 β' w' B' a'.defers β'' N'' env'' B'' a'' w'') : Way X k0 β w B d β'' N'' env'' B'' a'' w'' :=
  ⟨k.sim, k.defers.trans h.defers, h.fr.trans k.fr, fun b hb => ⟨(k.more b hb).1, (k.more b hb).2.trans (h.more b hb).2⟩, k.dom⟩

theorem Gone.way {k0 : Nat} {β β' : Map} {N N' : Nat → Prop} {w w' : World} {B B' : Boxes} {d : List Deferred} {env' : Env} {a' : Act}
    (h : Gone X β N w B d β' N' env' B' a' w') (hk : ∀ b, b < k0 → N b) (hN : ∀ b, N' b → b < B'.length) : Way X k0 β w B d β' N' env' B' a' w' :=
  ⟨h.sim, h.defers, h.fr, fun b hb => h.more b (hk b hb), hN⟩

theorem compact_sound {k0 : Nat} {env env' : Env} {B B' : Boxes} {β : Map} {N : Nat → Prop} {w : World} {vs : List Value} (hS : SimB X β N w (look B)) (hr : (compact k0 env B).run = some (env', B')) (hv : VRs (All X β (look B)) β N w env vs) :
    ∃ β', SimB X β' (· < B'.length) w (look B') ∧ VRs (All X β' (look B')) β' (· < B'.length) w env' vs ∧ Fr (Own β (look B)) w (Own β' (look B')) w ∧ ∀ b, b < k0 → b < B'.length ∧ β' b = β b := by
  unfold compact at hr
  simp only at hr
  generalize reachGo B 1000 [] (List.range k0 ++ AV.refs.refsL env) = rs at hr
  obtain ⟨h1, h2⟩ := (M.run_ifb _ _ _).1 hr
  obtain ⟨env1, h3, h4⟩ := run_bind_some h2
  obtain ⟨B1, h5, h6⟩ := run_bind_some h4
  simp only [M.run, Option.some.injEq, Prod.mk.injEq] at h6
  obtain ⟨rfl, rfl⟩ := h6
  have h3' := optM_run h3
  have ownLt : ∀ c, Own β (look B) c → c < w.heap.size := by
    rintro c ⟨b, h1, h2⟩
    exact hS.lt (fun e => by rw [e] at h1; simp [Box.live] at h1) h2
  obtain ⟨_, _, hown0, _, _⟩ := pick_sound (X' := fun c => All X β (look B) c ∧ ¬ Own (pickMap β rs) (look B1) c) hS (fun _ _ => rfl) h5 (fun c h => h.1) (fun c h => h.1.elim (hS.old c) (ownLt c)) (fun c h h' => h'.2 h)
  have hsub : ∀ c, Own (pickMap β rs) (look B1) c → Own β (look B) c := fun c h => by obtain ⟨b, _, q1, q2⟩ := hown0 c h; exact ⟨b, q1, q2⟩
  obtain ⟨hSc, hlen, hownc, hnd, hgetc⟩ := pick_sound (X' := X) hS (fun _ _ => rfl) h5 (fun c h => .inl h) hS.old (fun c h => hS.apart c (hsub c h))
  rw [hlen]
  refine ⟨pickMap β rs, hSc, ?_, ?_, ?_⟩
  · exact VRs.ren (X := All X β (look B)) (β := β) (β' := pickMap β rs) (N := N) (N' := (· < rs.length)) (idxIn rs) (fun b b' h hN => pick_names b b' h hN) (by
      rintro c (h | h)
      · exact .inl h
      · exact .inr (hsub c h)) env _ vs h3' hv
  · exact ⟨rfl, rfl, rfl, Nat.le_refl _, fun c _ h => ⟨fun h' => h (hsub c h'), rfl⟩, fun c arr e fz h => ⟨arr, fz, h, rfl⟩⟩
  · intro b hb
    simp only [List.all_eq_true] at h1
    have := h1 b (List.mem_range.2 hb)
    have h7 : rs[b]? = some b := by simpa using this
    exact ⟨(List.getElem?_eq_some_iff.1 h7).1, by simp [pickMap, h7]⟩

theorem VRs.of_slots {Y : Blocks} {β : Map} {N : Nat → Prop} {w : World} {env : Env} {tmps : Array Value} (hl : env.length = tmps.size) (h : ∀ i, VR Y β N w (env.getD i .top) (tmps.getD i undef)) : VRs Y β N w env tmps.toList := by
  refine VRs.mk _ _ (by simpa using hl) fun j a v ha hv => ?_
  have := h j
  rw [List.getD_eq_getElem?_getD, ha, Array.getD_eq_getD_getElem?, ← Array.getElem?_toList, hv] at this
  exact this

theorem VRs.slots {Y : Blocks} {β : Map} {N : Nat → Prop} {w : World} {env : Env} {tmps : Array Value} (h : VRs Y β N w env tmps.toList) : env.length = tmps.size ∧ ∀ i, VR Y β N w (env.getD i .top) (tmps.getD i undef) := by
  have hl := VRs.len _ _ h
  refine ⟨by simpa using hl, fun i => ?_⟩
  cases ha : env[i]? with
  | none => rw [List.getD_eq_getElem?_getD, ha]; exact VR.top_iff.2 trivial
  | some a =>
    have hi : i < tmps.size := by
      have := (List.getElem?_eq_some_iff.1 ha).1
      simp at hl; omega
    have := VRs.get _ _ h i a tmps[i] ha (by simp [hi])
    simpa [List.getD_eq_getElem?_getD, ha, Array.getD_eq_getD_getElem?, hi] using this

theorem clear_get (keep : Nat) (env : Env) (i : Nat) : (clear keep env).getD i .top = env.getD i .top ∨ (clear keep env).getD i .top = .top := by
  unfold clear
  rw [List.getD_eq_getElem?_getD, List.getElem?_mapIdx, List.getD_eq_getElem?_getD]
  cases env[i]? with
  | none => exact .inl rfl
  | some v =>
    simp only [Option.map_some, Option.getD_some]
    cases keep.testBit i
    · exact .inr rfl
    · exact .inl rfl

/-- The way to the head of a loop. -/
theorem head_sound {k0 keep : Nat} {env env' : Env} {B B' : Boxes} {β : Map} {N : Nat → Prop} {w : World} {a : Act} (hS : SimA X β N w env a B) (hr : (compact k0 (clear keep env) B).run = some (env', B')) :
    ∃ β', Way X k0 β w B a.defers β' (· < B'.length) env' B' a w := by
  have hs : ∀ i, VR (All X β (look B)) β N w ((clear keep env).getD i .top) (a.tmps.getD i undef) := by
    intro i
    rcases clear_get keep env i with h | h
    · rw [h]; exact hS.slot i
    · rw [h]; exact VR.top_iff.2 trivial
  have hv := VRs.of_slots (by simp [clear, hS.len]) hs
  obtain ⟨β', q1, q2, q3, q4⟩ := compact_sound hS.heap hr hv
  obtain ⟨r1, r2⟩ := VRs.slots q2
  exact ⟨β', ⟨q1, r1, r2⟩, rfl, q3, q4, fun b hb => hb⟩

def AEx.ex : AEx → Exit
  | .normal => .normal
  | .exit id => .exit id
  | .ret => .ret

theorem rd_sound (P : Program) {x : Operand} {c : AArg} (h : compArg x = some c) {Y : Blocks} {β : Map} {N : Nat → Prop} {w : World} {env : Env} {a : Act} (hS : ∀ i, VR Y β N w (env.getD i .top) (a.tmps.getD i undef)) : VR Y β N w (rdA env c) (a.eval x) := by
  have := compArgs_VR (P := P) a env hS [x] [c] (by simp [compArgs, h])
  unfold VRs at this
  exact this.1

/-- Code does what the evaluator says. -/
theorem evC_sound (hm : P.follows .mixedOrders = true) (hok : CallOK P call) (n k0 : Nat) : ∀ (c : Code) (ret live : Nat) (ex : List (Nat × Nat)) (ac : AC) (la : Nat), compC P ret c live ex = some (ac, la) →
    ∀ {Q : Exit → Act → World → Prop} {β : Map} {N : Nat → Prop} {w : World} {env env' : Env} {a : Act} {B B' : Boxes} {e : AEx}, SimA X β N w env a B → (∀ b, N b → b < B.length) → (∀ b, b < k0 → N b) → (evC byref call n k0 ac env B).run = some (e, env', B') →
    (∀ β' N' a' w', Way X k0 β w B a.defers β' N' env' B' a' w' → Q e.ex a' w') → c.wp P Q a w := by
  intro c
  induction c with
  | skip =>
    intro ret live ex ac la hc Q β N w env env' a B B' e hS hN hk hr hQ
    simp only [compC, Option.some.injEq, Prod.mk.injEq] at hc
    obtain ⟨rfl, rfl⟩ := hc
    simp only [evC, M.run, Option.some.injEq, Prod.mk.injEq] at hr
    obtain ⟨rfl, rfl, rfl⟩ := hr
    exact wp_skip (hQ β N a w ((Gone.refl hS).way hk hN))
  | label l =>
    intro ret live ex ac la hc Q β N w env env' a B B' e hS hN hk hr hQ
    simp only [compC, Option.some.injEq, Prod.mk.injEq] at hc
    obtain ⟨rfl, rfl⟩ := hc
    simp only [evC, M.run, Option.some.injEq, Prod.mk.injEq] at hr
    obtain ⟨rfl, rfl, rfl⟩ := hr
    exact wp_label (hQ β N a w ((Gone.refl hS).way hk hN))
  | exit id =>
    intro ret live ex ac la hc Q β N w env env' a B B' e hS hN hk hr hQ
    simp only [compC, Option.some.injEq, Prod.mk.injEq] at hc
    obtain ⟨rfl, rfl⟩ := hc
    simp only [evC, M.run, Option.some.injEq, Prod.mk.injEq] at hr
    obtain ⟨rfl, rfl, rfl⟩ := hr
    exact wp_exit (hQ β N a w ((Gone.refl hS).way hk hN))
  | ret =>
    intro ret live ex ac la hc Q β N w env env' a B B' e hS hN hk hr hQ
    simp only [compC, Option.some.injEq, Prod.mk.injEq] at hc
    obtain ⟨rfl, rfl⟩ := hc
    simp only [evC, M.run, Option.some.injEq, Prod.mk.injEq] at hr
    obtain ⟨rfl, rfl, rfl⟩ := hr
    exact wp_ret (hQ β N a w ((Gone.refl hS).way hk hN))
  | region id ops draw =>
    intro ret live ex ac la hc Q β N w env env' a B B' e hS hN hk hr hQ
    simp only [compC] at hc
    split at hc
    · rename_i as has
      split at hc
      · cases hc
      · rename_i hed
        simp only [Option.some.injEq, Prod.mk.injEq] at hc
        obtain ⟨rfl, rfl⟩ := hc
        cases draw with
        | false =>
          simp only [cond_false, evC] at hr
          obtain ⟨⟨e1, B1⟩, h1, h2⟩ := run_bind_some hr
          simp only [M.run, Option.some.injEq, Prod.mk.injEq] at h2
          obtain ⟨rfl, rfl, rfl⟩ := h2
          exact wp_region_list (list_sound hok _ as has hS hN h1 fun β' N' a' w' hg hN' => hQ β' N' a' w' (hg.way hk hN'))
        | true =>
          simp only [cond_true, evC] at hr
          obtain ⟨⟨e1, B1⟩, h1, h2⟩ := run_bind_some hr
          simp only [M.run, Option.some.injEq, Prod.mk.injEq] at h2
          obtain ⟨rfl, rfl, rfl⟩ := h2
          exact draw_sound hm hok has (by simpa using hed) hS hN h1 fun β' N' a' w' hg hN' => hQ β' N' a' w' (hg.way hk hN')
    · cases hc
  | seq x y ihx ihy =>
    intro ret live ex ac la hc Q β N w env env' a B B' e hS hN hk hr hQ
    simp only [compC] at hc
    split at hc
    · rename_i b' lb hb
      split at hc
      · rename_i a' la' ha
        simp only [Option.some.injEq, Prod.mk.injEq] at hc
        obtain ⟨rfl, rfl⟩ := hc
        simp only [evC] at hr
        obtain ⟨⟨e1, env1, B1⟩, h1, h2⟩ := run_bind_some hr
        simp only at h2
        refine wp_seq (ihx _ _ _ _ _ ha hS hN hk h1 fun β1 N1 a1 w1 hw => ?_)
        cases e1 with
        | normal =>
          exact ihy _ _ _ _ _ hb hw.sim hw.dom (fun b hb => (hw.more b hb).1) h2 fun β2 N2 a2 w2 hw2 => hQ β2 N2 a2 w2 (hw.trans hw2)
        | exit id =>
          simp only [M.run, Option.some.injEq, Prod.mk.injEq] at h2
          obtain ⟨rfl, rfl, rfl⟩ := h2
          exact hQ β1 N1 a1 w1 hw
        | ret =>
          simp only [M.run, Option.some.injEq, Prod.mk.injEq] at h2
          obtain ⟨rfl, rfl, rfl⟩ := h2
          exact hQ β1 N1 a1 w1 hw
      · cases hc
    · cases hc
  | cond x y z ihy ihz =>
    intro ret live ex ac la hc Q β N w env env' a B B' e hS hN hk hr hQ
    simp only [compC] at hc
    split at hc
    · rename_i c' a' la' b' lb' hx hy hz
      simp only [Option.some.injEq, Prod.mk.injEq] at hc
      obtain ⟨rfl, rfl⟩ := hc
      simp only [evC] at hr
      have hv := rd_sound P hx hS.slot
      split at hr
      · rename_i t ht
        rw [ht] at hv
        have hc := VR.d_iff.1 hv
        simp only [M.run] at hr
        refine wp_cond (t := t) hc ?_
        cases t with
        | true => exact ihy _ _ _ _ _ hy hS hN hk hr hQ
        | false => exact ihz _ _ _ _ _ hz hS hN hk hr hQ
      · simp [M.run] at hr
    · cases hc
  | block id x ih =>
    intro ret live ex ac la hc Q β N w env env' a B B' e hS hN hk hr hQ
    simp only [compC] at hc
    split at hc
    · rename_i a' la' ha
      simp only [Option.some.injEq, Prod.mk.injEq] at hc
      obtain ⟨rfl, rfl⟩ := hc
      simp only [evC] at hr
      obtain ⟨⟨e1, env1, B1⟩, h1, h2⟩ := run_bind_some hr
      simp only at h2
      refine wp_block (ih _ _ _ _ _ ha hS hN hk h1 fun β1 N1 a1 w1 hw => ?_)
      cases e1 with
      | normal =>
        simp only [M.run, Option.some.injEq, Prod.mk.injEq] at h2
        obtain ⟨rfl, rfl, rfl⟩ := h2
        exact hQ β1 N1 a1 w1 hw
      | exit id' =>
        simp only [M.run, Option.some.injEq, Prod.mk.injEq] at h2
        obtain ⟨rfl, rfl, rfl⟩ := h2
        have := hQ β1 N1 a1 w1 hw
        simp only [AEx.ex, Exit.inBlock]
        split
        · rename_i h; rw [if_pos h] at this; exact this
        · rename_i h; rw [if_neg h] at this; exact this
      | ret =>
        simp only [M.run, Option.some.injEq, Prod.mk.injEq] at h2
        obtain ⟨rfl, rfl, rfl⟩ := h2
        exact hQ β1 N1 a1 w1 hw
    · cases hc
  | loop x ih =>
    intro ret live ex ac la hc Q β N w env env' a B B' e hS hN hk hr hQ
    simp only [compC] at hc
    split at hc
    · rename_i a0 la0 ha0
      split at hc
      · rename_i a1 h1' ha1
        split at hc
        · rename_i a2 h2' ha2
          simp only [Option.some.injEq, Prod.mk.injEq] at hc
          obtain ⟨rfl, rfl⟩ := hc
          simp only [evC] at hr
          refine wp_loop_rounds n ?_
          have key : ∀ (m : Nat) {β : Map} {N : Nat → Prop} {w : World} {env : Env} {a : Act} {B : Boxes}, SimA X β N w env a B → (loopN k0 h2' (evC byref call n k0 a2) m env B).run = some (e, env', B') →
              (∀ β' N' a' w', Way X k0 β w B a.defers β' N' env' B' a' w' → Q e.ex a' w') → Code.rounds P x Q m a w := by
            intro m
            induction m with
            | zero => intro β N w env a B _ hr; simp [loopN, M.run] at hr
            | succ m ihm =>
              intro β N w env a B hS hr hQ
              simp only [loopN] at hr
              obtain ⟨⟨env1, B1⟩, g1, g2⟩ := run_bind_some hr
              simp only at g2
              obtain ⟨⟨e2, env2, B2⟩, g3, g4⟩ := run_bind_some g2
              simp only at g4
              obtain ⟨β1, hw1⟩ := head_sound hS g1
              rw [rounds_succ]
              refine ih _ _ _ _ _ ha2 hw1.sim hw1.dom (fun b hb => (hw1.more b hb).1) g3 fun β2 N2 a2' w2 hw2 => ?_
              have hw := hw1.trans hw2
              cases e2 with
              | normal => exact ihm hw.sim g4 fun β3 N3 a3 w3 hw3 => hQ β3 N3 a3 w3 (hw.trans (by rw [hw.defers] at *; exact hw3))
              | exit id =>
                simp only [M.run, Option.some.injEq, Prod.mk.injEq] at g4
                obtain ⟨rfl, rfl, rfl⟩ := g4
                exact hQ β2 N2 a2' w2 hw
              | ret =>
                simp only [M.run, Option.some.injEq, Prod.mk.injEq] at g4
                obtain ⟨rfl, rfl, rfl⟩ := g4
                exact hQ β2 N2 a2' w2 hw
          exact key n hS hr hQ
        · cases hc
      · cases hc
    · cases hc
  | scope x ih =>
    intro ret live ex ac la hc Q β N w env env' a B B' e hS hN hk hr hQ
    simp only [compC] at hc
    refine wp_scope_straight (ih _ _ _ _ _ hc hS hN hk hr fun β' N' a' w' hw => ?_)
    have := hQ β' N' a' w' hw
    cases e <;> exact this
  | _ =>
    intro ret live ex ac la hc Q β N w env env' a B B' e hS hN hk hr hQ
    simp only [compC, Option.some.injEq, Prod.mk.injEq] at hc
    obtain ⟨rfl, rfl⟩ := hc
    simp [evC, M.run] at hr

end
end Go.Ev
