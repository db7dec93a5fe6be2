/- Regions. No condition. -/
import Derived.Test.YtnmakkgomplchaaGreatDoorEvY
namespace Go.Ev
set_option linter.unusedVariables false
set_option linter.unusedSimpArgs false
set_option linter.unusedSectionVars false
variable [Ctx]

section
variable {P : Program} [TagOK P] {X : Blocks} {byref : FuncId → Bool} {call : Caller}

/-- From one state to another. -/
structure Gone (X : Blocks) (β : Map) (N : Nat → Prop) (w : World) (B : Boxes) (d : List Deferred) (β' : Map) (N' : Nat → Prop) (env' : Env) (B' : Boxes) (a' : Act) (w' : World) : Prop where
  sim : SimA X β' N' w' env' a' B'
  defers : a'.defers = d
  fr : Fr (Own β (look B)) w (Own β' (look B')) w'
  more : ∀ b, N b → N' b ∧ β' b = β b

theorem Gone.trans {β β' β'' : Map} {N N' N'' : Nat → Prop} {w w' w'' : World} {B B' B'' : Boxes} {d : List Deferred} {env' env'' : Env} {a' a'' : Act}
    (h : Gone X β N w B d β' N' env' B' a' w') (k : Gone X β' N' w' B' a'.defers β'' N'' env'' B'' a'' w'') : Gone X β N w B d β'' N'' env'' B'' a'' w'' :=
  ⟨k.sim, k.defers.trans h.defers, h.fr.trans k.fr, fun b hb => ⟨(k.more b (h.more b hb).1).1, (k.more b (h.more b hb).1).2.trans (h.more b hb).2⟩⟩

theorem Gone.refl {β : Map} {N : Nat → Prop} {w : World} {B : Boxes} {env : Env} {a : Act} (h : SimA X β N w env a B) : Gone X β N w B a.defers β N env B a w :=
  ⟨h, rfl, Fr.refl _ _, fun b hb => ⟨hb, rfl⟩⟩

theorem After.gone {β : Map} {N : Nat → Prop} {w : World} {B : Boxes} {al : Nat} {d : List Deferred} {env' : Env} {B' : Boxes} {a' : Act} {w' : World} (h : After X β N w B al d env' B' a' w') :
    ∃ β' N', Gone X β N w B d β' N' env' B' a' w' ∧ ∀ b, N' b → N b ∨ (al ≤ b ∧ b < al + room ∧ b < B'.length) := by
  obtain ⟨β', N', h1, h2, h3, h4, h5⟩ := h
  refine ⟨β', N', ⟨h1, h2, h3, h4⟩, fun b hb => (h5 b hb).imp id fun ⟨q1, q2, q3⟩ => ⟨q1, q2, ?_⟩⟩
  apply Classical.byContradiction
  intro hn
  exact q3 (by simp [look, List.getD_eq_getElem?_getD, List.getElem?_eq_none (Nat.not_lt.1 hn)])

theorem evOper_len {o : AOper} {env : Env} {B : Boxes} {al : Nat} {r : Env × Boxes × List Nat × List Nat} (h : (evOper byref call o env B al).run = some r) : B.length ≤ r.2.1.length := by
  obtain ⟨e, B1, rs, ws⟩ := r
  obtain ⟨v, xs, h1, h2, h3, h4⟩ := evOper_local (B' := B) (env2 := env) h (fun _ _ => rfl) (fun _ _ => rfl)
  simp only [h2]
  exact upd_len _ _

theorem compOpers_get {ops : Array Oper} : ∀ (os : List Oper) (as : List AOper), compOpers P ops os = some as → as.length = os.length ∧ ∀ (k : Nat) (o : Oper), os[k]? = some o → ∃ ao, as[k]? = some ao ∧ compOper P ops o = some ao
  | [], as, h => by
    simp only [compOpers, Option.some.injEq] at h
    subst h
    exact ⟨rfl, fun k o ho => by simp at ho⟩
  | o :: os, as, h => by
    simp only [compOpers] at h
    split at h
    · rename_i a as' h1 h2
      simp only [Option.some.injEq] at h
      subst h
      obtain ⟨g1, g2⟩ := compOpers_get os as' h2
      refine ⟨by simp [g1], fun k o' ho => ?_⟩
      cases k with
      | zero =>
        simp only [List.getElem?_cons_zero, Option.some.injEq] at ho
        subst ho
        exact ⟨a, rfl, h1⟩
      | succ k => simpa using g2 k o' (by simpa using ho)
    · cases h

/-- A region in the order of the text. -/
theorem list_sound (hok : CallOK P call) {ops : Array Oper} {Q : Exit → Act → World → Prop} : ∀ (os : List Oper) (as : List AOper) {β : Map} {N : Nat → Prop} {w : World} {env env' : Env} {a : Act} {B B' : Boxes}, compOpers P ops os = some as → SimA X β N w env a B → (∀ b, N b → b < B.length) →
    (evOps byref call as env B).run = some (env', B') →
    (∀ β' N' a' w', Gone X β N w B a.defers β' N' env' B' a' w' → (∀ b, N' b → b < B'.length) → Q .normal a' w') → wpList P ops Q os a w
  | [], as, β, N, w, env, env', a, B, B', hc, hS, hN, hr, hQ => by
    simp only [compOpers, Option.some.injEq] at hc
    subst hc
    simp only [evOps, M.run, Option.some.injEq, Prod.mk.injEq] at hr
    obtain ⟨rfl, rfl⟩ := hr
    exact hQ β N a w (Gone.refl hS) hN
  | o :: os, as, β, N, w, env, env', a, B, B', hc, hS, hN, hr, hQ => by
    simp only [compOpers] at hc
    split at hc
    · rename_i ao as' h1 h2
      simp only [Option.some.injEq] at hc
      subst hc
      simp only [evOps] at hr
      obtain ⟨⟨e1, B1, rs, ws⟩, h3, h4⟩ := run_bind_some hr
      simp only at h4
      refine wpList_step fun K hK => ?_
      have hl := evOper_len h3
      refine evOper_sound (al := B.length) h1 hok hS (fun j _ hj => absurd (hN _ hj) (by omega)) h3 fun a' w' hA => hK _ _ ?_
      obtain ⟨β1, N1, hg, hn⟩ := hA.gone
      have hN1 : ∀ b, N1 b → b < B1.length := fun b hb => (hn b hb).elim (fun h => Nat.lt_of_lt_of_le (hN b h) hl) fun h => h.2.2
      refine list_sound hok os as' h2 hg.sim hN1 h4 fun β' N' a'' w'' hg' hN' => hQ β' N' a'' w'' (hg.trans hg') hN'
    · cases hc

theorem look_pad (B : Boxes) (n : Nat) : look (B ++ List.replicate n .dead) = look B := by
  funext b
  simp only [look, List.getD_eq_getElem?_getD, List.getElem?_append]
  split
  · rfl
  · rename_i h
    rw [List.getElem?_eq_none (Nat.not_lt.1 h), List.getElem?_replicate]
    split <;> rfl

theorem SimA.pad {β : Map} {N : Nat → Prop} {w : World} {env : Env} {a : Act} {B : Boxes} (n : Nat) (h : SimA X β N w env a B) : SimA X β N w env a (B ++ List.replicate n .dead) := by
  have e := look_pad B n
  exact ⟨by rw [e]; exact h.heap, h.len, by rw [e]; exact h.slot⟩

theorem SimB.same {β : Map} {N : Nat → Prop} {w w' : World} {L : Looks} (h : SimB X β N w L) (e : w'.heap = w.heap) : SimB X β N w' L := by
  have mv : Mv (All X β L) β N w (All X β L) β N w' := ⟨by rw [e]; exact Nat.le_refl _, fun c _ hc => ⟨hc, by rw [e]⟩, fun c arr t fz ha => ⟨arr, fz, by rw [e]; exact ha, rfl⟩, fun b hb => hb, fun b hb => rfl⟩
  refine ⟨h.apart, h.inj, fun b => ?_, h.dom, fun c hc => by rw [e]; exact h.old c hc, Ctx.stays w w' (fun c _ => by rw [e]) h.tabs.1, fun c hc => ⟨by rw [e]; exact (h.tabs.2 c hc).1, (h.tabs.2 c hc).2⟩⟩
  by_cases hd : L b = .dead
  · rw [hd]; trivial
  · exact (h.box b).move mv (h.dom b hd) fun c _ _ => by rw [e]

theorem SimA.same {β : Map} {N : Nat → Prop} {w w' : World} {env : Env} {a : Act} {B : Boxes} (h : SimA X β N w env a B) (e : w'.heap = w.heap) : SimA X β N w' env a B := by
  have mv : Mv (All X β (look B)) β N w (All X β (look B)) β N w' := ⟨by rw [e]; exact Nat.le_refl _, fun c _ hc => ⟨hc, by rw [e]⟩, fun c arr t fz ha => ⟨arr, fz, by rw [e]; exact ha, rfl⟩, fun b hb => hb, fun b hb => rfl⟩
  exact ⟨h.heap.same e, h.len, fun i => (h.slot i).move mv⟩

/-- All that must go ahead is listed. -/
def Closed (ops : Array Oper) (listed : Array Bool) : Prop :=
  ∀ (i : Nat) (o : Oper), ops[i]? = some o → listed.getD i false = true → ∀ e, e ∈ edgesOf o → listed.getD e false = true

theorem ahead_listed {ops : Array Oper} {listed : Array Bool} (hc : Closed ops listed) : ∀ (i : Nat) (o : Oper) (b j : Nat), ops[i]? = some o → (∀ e, e ∈ edgesOf o → listed.getD e false = true) → (ahead (ops.toList.map edgesOf))[i]? = some b → b.testBit j = true → listed.getD j false = true := by
  intro i
  induction i using Nat.strongRecOn with
  | _ i ih =>
    intro o b j ho he hb hj
    obtain ⟨es, h1, e, h2, h3⟩ := ahead_spec _ i b j hb hj
    have : es = edgesOf o := by
      rw [List.getElem?_map] at h1
      have : ops.toList[i]? = some o := by simpa using ho
      rw [this] at h1
      simpa using h1.symm
    subst this
    rcases h3 with rfl | ⟨h4, b', h5, h6⟩
    · exact he _ h2
    · have hi : e < ops.size := Nat.lt_trans h4 (Array.getElem?_eq_some_iff.1 ho).1
      exact ih e h4 ops[e] b' j (Array.getElem?_eq_getElem hi) (hc e _ (Array.getElem?_eq_getElem hi) (he e h2)) h5 h6

theorem edges_of {o : Oper} {listed : Array Bool} (h : (o.after.all fun e => !Region.binds .any e || listed.getD e.on false) = true) : ∀ e, e ∈ edgesOf o → listed.getD e false = true := by
  intro e he
  simp only [edgesOf, List.mem_filterMap] at he
  obtain ⟨x, h1, h2⟩ := he
  rw [Array.all_eq_true'] at h
  have := h x (by simpa using h1)
  split at h2
  · rename_i hb
    simp only [Option.some.injEq] at h2
    subst h2
    simpa [hb] using this
  · cases h2

theorem edgesOK_spec : ∀ (l : List (List Nat)) (i : Nat), edgesOK i l = true → ∀ (k : Nat) (es : List Nat), l[k]? = some es → ∀ e, e ∈ es → e < i + k
  | [], i, h, k, es, hk => by simp at hk
  | x :: l, i, h, k, es, hk => by
    simp only [edgesOK, Bool.and_eq_true, List.all_eq_true] at h
    intro e he
    cases k with
    | zero =>
      simp only [List.getElem?_cons_zero, Option.some.injEq] at hk
      subst hk
      have := h.1 e he
      rw [Nat.blt, Nat.ble_eq] at this
      omega
    | succ k =>
      have := edgesOK_spec l (i + 1) h.2 k es (by simpa using hk) e he
      omega

/-- What is left of a region. -/
structure Left (P : Program) (ops : Array Oper) (base : Nat) (N : Nat → Prop) (listed : Array Bool) (l : List (Nat × AOper × Rec)) : Prop where
  size : listed.size = ops.size
  mem : ∀ i, i < ops.size → (listed.getD i true = false ↔ ∃ x, x ∈ l ∧ x.1 = i)
  item : ∀ x, x ∈ l → ∃ o, ops[x.1]? = some o ∧ compOper P ops o = some x.2.1
  pair : l.Pairwise fun x y => x.1 < y.1 ∧ ((∃ b : Nat, (ahead (ops.toList.map edgesOf))[y.1]? = some b ∧ b.testBit x.1 = true) ∨ Rec.apart x.2.2 y.2.2 = true)
  closed : Closed ops listed
  fresh : ∀ x, x ∈ l → ∀ j, j < room → ¬ N (base + x.1 * room + j)
  dom : ∀ b, N b → b < base + ops.size * room

theorem wpAny_of (hok : CallOK P call) {ops : Array Oper} {base : Nat} (hed : edgesOK 0 (ops.toList.map edgesOf) = true) {Q : Exit → Act → World → Prop} : ∀ (fuel : Nat) (listed : Array Bool) (l : List (Nat × AOper × Rec)) {β : Map} {N : Nat → Prop} {w : World} {env env' : Env} {a : Act} {B B' : Boxes},
    Left P ops base N listed l → l.length ≤ fuel → SimA X β N w env a B → Seq byref call base l env B env' B' →
    (∀ β' N' a' w', Gone X β N w B a.defers β' N' env' B' a' w' → (∀ b, N' b → b < base + ops.size * room) → Q .normal a' w') → wpAny P .any ops Q fuel listed a w := by
  intro fuel
  have none_left : ∀ (listed : Array Bool) (l : List (Nat × AOper × Rec)) (N : Nat → Prop), Left P ops base N listed l → Region.ready .any ops listed = [] → l = [] := by
    intro listed l N hl hr
    cases l with
    | nil => rfl
    | cons x l =>
      exfalso
      obtain ⟨o, h1, h2⟩ := hl.item x (List.mem_cons_self ..)
      have hx : x.1 < ops.size := (Array.getElem?_eq_some_iff.1 h1).1
      have : x.1 ∈ Region.ready .any ops listed := by
        unfold Region.ready
        rw [List.mem_filter]
        refine ⟨List.mem_range.2 hx, ?_⟩
        rw [(hl.mem x.1 hx).2 ⟨x, List.mem_cons_self .., rfl⟩, h1]
        simp only [Bool.not_false, Bool.true_and, Option.map_some, Option.getD_some]
        rw [Array.all_eq_true']
        intro e he
        by_cases hb : Region.binds .any e = true
        · have hm : e.on ∈ edgesOf o := by
            simp only [edgesOf, List.mem_filterMap]
            exact ⟨e, by simpa using he, by simp [hb]⟩
          have hlt := edgesOK_spec _ 0 hed x.1 (edgesOf o) (by rw [List.getElem?_map, show ops.toList[x.1]? = some o from by simpa using h1]; rfl) e.on hm
          have hlt' : e.on < x.1 := by omega
          cases hg : listed.getD e.on true with
          | true =>
            have hs : e.on < listed.size := by rw [hl.size]; omega
            have : listed.getD e.on false = true := by
              simp only [Array.getD_eq_getD_getElem?, Array.getElem?_eq_getElem hs, Option.getD_some] at hg ⊢
              exact hg
            simp [this]
          | false =>
            exfalso
            obtain ⟨y, hy, hye⟩ := (hl.mem e.on (by omega)).1 hg
            rcases List.mem_cons.1 hy with rfl | hy
            · omega
            · have := (List.pairwise_cons.1 hl.pair).1 y hy
              omega
        · simp [hb]
      rw [hr] at this
      cases this
  induction fuel with
  | zero =>
    intro listed l β N w env env' a B B' hl hlen hS hseq hQ
    have : l = [] := by cases l with
      | nil => rfl
      | cons x l => simp at hlen
    subst this
    obtain ⟨rfl, rfl⟩ := hseq
    refine ⟨?_, hQ β N a w (Gone.refl hS) hl.dom⟩
    unfold Region.ready
    rw [List.filter_eq_nil_iff]
    intro i hi hh
    simp only [Bool.and_eq_true, Bool.not_eq_true'] at hh
    obtain ⟨x, hx, _⟩ := (hl.mem i (List.mem_range.1 hi)).1 hh.1
    cases hx
  | succ fuel ih =>
    intro listed l β N w env env' a B B' hl hlen hS hseq hQ
    refine ⟨fun hr => ?_, fun i hi => ?_⟩
    · have := none_left listed l N hl hr
      subst this
      obtain ⟨rfl, rfl⟩ := hseq
      exact hQ β N a w (Gone.refl hS) hl.dom
    · unfold Region.ready at hi
      rw [List.mem_filter] at hi
      obtain ⟨hi1, hi2⟩ := hi
      have hlt := List.mem_range.1 hi1
      simp only [Bool.and_eq_true, Bool.not_eq_true'] at hi2
      obtain ⟨hi2, hi3⟩ := hi2
      obtain ⟨z, hz, rfl⟩ := (hl.mem i hlt).1 hi2
      obtain ⟨o, ho1, ho2⟩ := hl.item z hz
      rw [ho1] at hi3
      simp only [Option.map_some, Option.getD_some] at hi3
      have hedges := edges_of hi3
      obtain ⟨xs, ys, rfl⟩ := List.append_of_mem hz
      have hpw := List.pairwise_append.1 hl.pair
      have hfront := Seq.front xs env B hseq fun x hx => by
        have := hpw.2.2 x hx z (List.mem_cons_self ..)
        rcases this.2 with ⟨b, hb, hbit⟩ | h
        · exfalso
          have h1 := ahead_listed hl.closed z.1 o b x.1 ho1 hedges hb hbit
          have h2 := (hl.mem x.1 (by omega)).2 ⟨x, by simp [hx], rfl⟩
          have hs : x.1 < listed.size := by rw [hl.size]; omega
          simp only [Array.getD_eq_getD_getElem?, Array.getElem?_eq_getElem hs, Option.getD_some] at h1 h2
          rw [h1] at h2
          cases h2
        · exact h
      obtain ⟨e1, B1, hr1, hr2, hr3⟩ := hfront
      unfold wpOp
      rw [ho1]
      simp only
      have main := evOper_sound (K := wpAny P .any ops Q fuel (listed.setIfInBounds z.1 true)) (Q := Q) (al := base + z.1 * room) ho2 hok hS (hl.fresh z hz) hr1 fun a' w' hA => by
        obtain ⟨β1, N1, hg, hn⟩ := hA.gone
        have hne : ∀ x, x ∈ xs ++ ys → x.1 ≠ z.1 := by
          intro x hx
          rcases List.mem_append.1 hx with hx | hx
          · have := (hpw.2.2 x hx z (List.mem_cons_self ..)).1; omega
          · have := ((List.pairwise_cons.1 hpw.2.1).1 x hx).1; omega
        have hget : ∀ (i : Nat) (d : Bool), i ≠ z.1 → (listed.setIfInBounds z.1 true).getD i d = listed.getD i d := by
          intro i d hne
          simp [Array.getD_eq_getD_getElem?, Array.getElem?_setIfInBounds, Ne.symm hne]
        have hgetz : ∀ d, (listed.setIfInBounds z.1 true).getD z.1 d = true := by
          intro d
          simp [Array.getD_eq_getD_getElem?, Array.getElem?_setIfInBounds, hl.size, hlt]
        have mono : ∀ i, listed.getD i false = true → (listed.setIfInBounds z.1 true).getD i false = true := by
          intro i h
          by_cases e : i = z.1
          · subst e; exact hgetz _
          · rw [hget i false e]; exact h
        refine ih _ (xs ++ ys) ⟨by simp [hl.size], ?_, fun x hx => hl.item x ?_, ?_, ?_, ?_, ?_⟩ ?_ hg.sim hr3 fun β' N' a'' w'' hg' hN' => hQ β' N' a'' w'' (hg.trans hg') hN'
        · intro i hi
          by_cases e : i = z.1
          · subst e
            rw [hgetz]
            constructor
            · intro h; cases h
            · rintro ⟨x, hx, hxe⟩
              exact absurd hxe (hne x hx)
          · rw [hget i true e, hl.mem i hi]
            constructor
            · rintro ⟨x, hx, rfl⟩
              refine ⟨x, ?_, rfl⟩
              simp only [List.mem_append, List.mem_cons] at hx ⊢
              rcases hx with hx | rfl | hx
              · exact .inl hx
              · exact absurd rfl e
              · exact .inr hx
            · rintro ⟨x, hx, rfl⟩
              refine ⟨x, ?_, rfl⟩
              simp only [List.mem_append, List.mem_cons] at hx ⊢
              exact hx.imp id .inr
        · simp only [List.mem_append, List.mem_cons] at hx ⊢
          exact hx.imp id .inr
        · refine List.pairwise_append.2 ⟨hpw.1, (List.pairwise_cons.1 hpw.2.1).2, fun x hx y hy => hpw.2.2 x hx y (List.mem_cons_of_mem _ hy)⟩
        · intro i o' ho' hi e he
          by_cases ez : i = z.1
          · subst ez
            rw [ho1] at ho'
            simp only [Option.some.injEq] at ho'
            subst ho'
            exact mono e (hedges e he)
          · rw [hget i false ez] at hi
            exact mono e (hl.closed i o' ho' hi e he)
        · intro x hx j hj hN1
          have hx' : x ∈ xs ++ z :: ys := by
            simp only [List.mem_append, List.mem_cons] at hx ⊢
            exact hx.imp id .inr
          rcases hn _ hN1 with h | ⟨h1, h2, _⟩
          · exact hl.fresh x hx' j hj h
          · have := hne x hx
            simp only [room] at h1 h2 hj
            omega
        · intro b hb
          rcases hn _ hb with h | ⟨h1, h2, _⟩
          · exact hl.dom b h
          · simp only [room] at h1 h2 ⊢
            omega
        · simp only [List.length_append, List.length_cons] at hlen ⊢
          omega
      split
      · rename_i hw
        rw [if_pos hw] at main
        exact .inl main
      · rename_i hw
        rw [if_neg hw] at main
        exact main

end
end Go.Ev
