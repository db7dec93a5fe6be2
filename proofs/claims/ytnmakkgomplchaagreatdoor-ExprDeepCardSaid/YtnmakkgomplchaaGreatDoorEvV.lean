/- A call is the model's: what it leaves to its caller. No condition. -/
import Derived.Test.YtnmakkgomplchaaGreatDoorEvU
namespace Go.Ev
set_option linter.unusedVariables false
set_option linter.unusedSimpArgs false
set_option linter.unusedSectionVars false
variable [Ctx]

section
variable {P : Program} {X : Blocks} {β : Map} {N : Nat → Prop} {w : World} {L : Looks} {al : Nat} {ρ : Operand → Value} {o : Oper}

theorem optM_run {α : Type} {x : Option α} {a : α} (h : (optM x).run = some a) : x = some a := by
  cases x with
  | none => simp [optM, M.run] at h
  | some b => simpa [optM, M.run] using h

theorem updsL_zip : ∀ (ks : List Nat) (xs : List Box) (L : Looks), ks.Nodup → ks.length = xs.length →
    (∀ (i b : Nat), ks[i]? = some b → updsL L (ks.zip xs) b = look xs i) ∧ ∀ b, b ∉ ks → updsL L (ks.zip xs) b = L b
  | [], [], L, _, _ => ⟨by simp, fun _ _ => rfl⟩
  | [], _ :: _, _, _, h => by simp at h
  | _ :: _, [], _, _, h => by simp at h
  | k :: ks, x :: xs, L, hn, hl => by
    rw [List.nodup_cons] at hn
    obtain ⟨h1, h2⟩ := updsL_zip ks xs (updL L k x) hn.2 (by simpa using hl)
    have e : updsL L ((k :: ks).zip (x :: xs)) = updsL (updL L k x) (ks.zip xs) := rfl
    rw [e]
    refine ⟨fun i b hb => ?_, fun b hb => ?_⟩
    · cases i with
      | zero =>
        simp at hb
        subst hb
        rw [h2 k hn.1]
        simp [updL, look]
      | succ i =>
        rw [h1 i b (by simpa using hb)]
        simp [look]
    · simp only [List.mem_cons, not_or] at hb
      rw [h2 b hb.2]
      exact if_neg hb.1

theorem evCallOp_sound {byref : FuncId → Bool} {call : Caller} {f : FuncId} {args : List AV} {B : Boxes} {res : Res} {vs : List Value} (hok : CallOK P call) (hr : (evCallOp byref call f args B al).run = some res) (hS : SimB X β N w (look B))
    (hal : ∀ j, j < room → ¬ N (al + j)) (hv : VRs (All X β (look B)) β N w args vs) :
    (∃ fn, P.funcs[f]? = some fn ∧ fn.body.isNone = false ∧ (fn.name == "runtime.NumGoroutine") = false) ∧
    Calls P f vs.toArray w fun e w' => ∃ v, e = .returned v ∧ Step X β N w (look B) al (updsL (look B) res.writes) res.val v w' := by
  unfold evCallOp at hr
  obtain ⟨⟨as, ws⟩, hsn, hr⟩ := run_bind_some hr
  simp only at hr
  generalize hrs : reachGo B 1000 [] (AV.refs.refsL as) = rs at hr
  obtain ⟨as', has, hr⟩ := run_bind_some hr
  have has' := optM_run has
  obtain ⟨sub, hpk, hr⟩ := run_bind_some hr
  rw [M.run_ifb] at hr
  obtain ⟨hdis, hr⟩ := hr
  obtain ⟨⟨r, B1⟩, hcall, hr⟩ := run_bind_some hr
  simp only at hr
  generalize hks : rs ++ (List.range (B1.length - rs.length)).map (fun j => al + j) = ks at hr
  rw [M.run_ifb] at hr
  obtain ⟨hcnd, hr⟩ := hr
  obtain ⟨r', hr1, hr⟩ := run_bind_some hr
  have hr1' := optM_run hr1
  obtain ⟨B1', hB1, hr⟩ := run_bind_some hr
  have hB1' := optM_run hB1
  simp only [M.run, Option.some.injEq] at hr
  subst hr
  simp only [Bool.and_eq_true, List.all_eq_true] at hcnd
  obtain ⟨⟨⟨⟨c1, c2⟩, c3⟩, c4⟩, c5⟩ := hcnd
  have c1' := Nat.le_of_ble_eq_true c1
  have c2' := Nat.le_of_ble_eq_true c2
  have c3' : ∀ b, b ∈ rs → b < al := fun b hb => by simpa [Nat.blt_eq] using c3 b hb
  -- the slices as plain data
  have hsnap : SimB X β N w (updsL (look B) ws) ∧ Fr (Own β (look B)) w (Own β (updsL (look B) ws)) w ∧ VRs (All X β (updsL (look B) ws)) β N w as vs := by
    split at hsn
    · simp only [M.run, Option.some.injEq, Prod.mk.injEq] at hsn
      obtain ⟨rfl, rfl⟩ := hsn
      exact ⟨hS, Fr.refl _ _, hv⟩
    · obtain ⟨a1, a2, a3, _⟩ := snapL_sound args as ws vs (look B) hS (Cl.refl _) hsn hv
      exact ⟨a1, a2, a3⟩
  obtain ⟨hS1, hF1, hv1⟩ := hsnap
  have hLB : ∀ b, b ∈ rs → updsL (look B) ws b = look B b := by
    intro b hb
    simp only [List.all_eq_true, Bool.not_eq_true', List.contains_eq_mem, decide_eq_false_iff_not] at hdis
    exact updsL_other _ _ (hdis b hb)
  generalize hL1 : updsL (look B) ws = L1 at hS1 hF1 hv1 hLB
  -- what the callee sees
  have ownLt : ∀ {L : Looks}, SimB X β N w L → ∀ c, Own β L c → c < w.heap.size := by
    rintro L h c ⟨b, h1, h2⟩
    exact h.lt (fun e => by rw [e] at h1; simp [Box.live] at h1) h2
  obtain ⟨hSc, hlen, hownc, hnd, hgetc⟩ := pick_sound (X' := fun c => All X β L1 c ∧ ¬ Own (pickMap β rs) (look sub) c) hS1 hLB hpk (fun c h => h.1) (fun c h => h.1.elim (hS1.old c) (ownLt hS1 c)) (fun c h h' => h'.2 h)
  have hownL1 : ∀ c, Own (pickMap β rs) (look sub) c → Own β L1 c := fun c h => by obtain ⟨b, _, h1, h2⟩ := hownc c h; exact ⟨b, h1, h2⟩
  have hv2 : VRs (All (fun c => All X β L1 c ∧ ¬ Own (pickMap β rs) (look sub) c) (pickMap β rs) (look sub)) (pickMap β rs) (· < rs.length) w as' vs :=
    VRs.ren (X := All X β L1) (β := β) (β' := pickMap β rs) (N := N) (N' := (· < rs.length)) (idxIn rs) (fun b b' h hN => pick_names b b' h hN) (by
      rintro c (h | h)
      · exact h.1
      · exact .inr (hownL1 c h)) as as' vs has' hv1
  rw [← hlen] at hSc hv2
  obtain ⟨hfn, hle, hcalls⟩ := hok f as' sub r B1 hcall
  refine ⟨hfn, (hcalls _ _ w vs hSc hv2).mono ?_⟩
  rintro e w' ⟨v, β1, rfl, hS2, hrv, hF2, hβ1⟩
  refine ⟨v, rfl, ?_⟩
  -- the names
  have hksl : ks.length = B1.length := by rw [← hks]; simp; omega
  have hknd : ks.Nodup := by
    rw [← hks, List.nodup_append]
    refine ⟨hnd, ?_, ?_⟩
    · rw [List.nodup_iff_pairwise_ne, List.pairwise_map]
      exact (List.nodup_iff_pairwise_ne.1 List.nodup_range).imp fun h => by omega
    · intro a ha b hb
      obtain ⟨j, _, rfl⟩ := List.mem_map.1 hb
      have := c3' a ha
      omega
  have hkget : ∀ i b, ks[i]? = some b → (i < rs.length ∧ rs[i]? = some b) ∨ (rs.length ≤ i ∧ i < B1.length ∧ b = al + (i - rs.length)) := by
    intro i b hb
    rw [← hks, List.getElem?_append] at hb
    split at hb
    · rename_i h; exact .inl ⟨h, hb⟩
    · rename_i h
      rw [List.getElem?_map, Option.map_eq_some_iff] at hb
      obtain ⟨j, hj, rfl⟩ := hb
      rw [List.getElem?_eq_some_iff] at hj
      obtain ⟨h1, h2⟩ := hj
      simp at h1 h2
      exact .inr ⟨by omega, by omega, by omega⟩
  generalize hnn : B1.length - rs.length = nn at hks
  have hnroom : nn ≤ room := by omega
  let β2 : Map := fun b => if al ≤ b ∧ b < al + nn then β1 (rs.length + (b - al)) else β b
  let N2 : Nat → Prop := fun b => N b ∨ (al ≤ b ∧ b < al + nn)
  have hfresh : ∀ b, N b → ¬ (al ≤ b ∧ b < al + nn) := by
    intro b hN h
    have := hal (b - al) (by omega)
    rw [show al + (b - al) = b by omega] at this
    exact this hN
  have hN2 : ∀ b, N b → N2 b ∧ β2 b = β b := fun b hb => ⟨.inl hb, if_neg (hfresh b hb)⟩
  have hkβ : ∀ i b, ks[i]? = some b → β2 b = β1 i := by
    intro i b hb
    rcases hkget i b hb with ⟨h1, h2⟩ | ⟨h1, h2, rfl⟩
    · have hlt := c3' b (List.mem_of_getElem? h2)
      show (if al ≤ b ∧ b < al + nn then _ else _) = _
      rw [if_neg (by omega), hβ1 i (by omega)]
      simp [pickMap, h2]
    · show (if al ≤ al + (i - rs.length) ∧ al + (i - rs.length) < al + nn then _ else _) = _
      rw [if_pos (by omega)]
      congr 1
      omega
  obtain ⟨hB1l, hB1g⟩ := renBoxes_get _ _ _ hB1'
  have hB1get : ∀ i b, ks[i]? = some b → (look B1 i).ren (fun i => ks[i]?) = some (look B1' i) := by
    intro i b hb
    have hi : i < B1.length := by have := (List.getElem?_eq_some_iff.1 hb).1; omega
    obtain ⟨x', h1, h2⟩ := hB1g i (look B1 i) (by simp [look, List.getD_eq_getElem?_getD, List.getElem?_eq_getElem hi])
    rw [h1]
    simp [look, List.getD_eq_getElem?_getD, h2]
  -- the boxes behind the call: L0 where nothing is named
  have fin : ∀ (L0 : Looks), SimB X β N w L0 → (∀ b, b ∈ rs → L0 b = look B b) → (∀ c, Own β L0 c → Own β (look B) c) → (∀ c, Own β L1 c → Own β L0 c) →
      (∀ (Y : Blocks), (∀ c, Y c → X c ∨ (Own β L0 c ∧ ¬ Own (pickMap β rs) (look sub) c) ∨ Own β1 (look B1) c) → VR Y β1 (· < B1.length) w' r v ∧ ∀ i, BoxR Y β1 (· < B1.length) w' i (look B1 i)) →
      Step X β N w (look B) al (updsL L0 (ks.zip B1')) r' v w' := by
    intro L0 hS0 hL0 hO0 hO1 hY
    obtain ⟨z1, z2⟩ := updsL_zip ks B1' L0 hknd (by omega)
    generalize updsL L0 (ks.zip B1') = L2 at z1 z2
    have ownc : ∀ c, Own (pickMap β rs) (look sub) c → ∃ b, b ∈ rs ∧ (L0 b).live = true ∧ β b = some c := by
      intro c h
      obtain ⟨b, h1, h2, h3⟩ := hownc c h
      exact ⟨b, h1, by rw [hL0 b h1, ← hLB b h1]; exact h2, h3⟩
    have own1 : ∀ c, c < w.heap.size → Own β1 (look B1) c → Own (pickMap β rs) (look sub) c := fun c hc h => Classical.byContradiction fun hn => (hF2.blk c hc hn).1 h
    have mem_ks : ∀ b, b ∈ rs → b ∈ ks := fun b hb => by rw [← hks]; exact List.mem_append_left _ hb
    have kof : ∀ b, b ∈ ks → ∃ i, ks[i]? = some b := fun b hb => List.mem_iff_getElem?.1 hb
    have own2 : ∀ c, Own β2 L2 c → (∃ i b, ks[i]? = some b ∧ (look B1 i).live = true ∧ β1 i = some c) ∨ (∃ b, b ∉ ks ∧ (L0 b).live = true ∧ β b = some c) := by
      rintro c ⟨b, h1, h2⟩
      by_cases hb : b ∈ ks
      · obtain ⟨i, hi⟩ := kof b hb
        rw [z1 i b hi, Box.ren_live (hB1get i b hi)] at h1
        exact .inl ⟨i, b, hi, h1, by rw [← hkβ i b hi]; exact h2⟩
      · rw [z2 b hb] at h1
        have hNb := hS0.dom b (fun e => by rw [e] at h1; simp [Box.live] at h1)
        exact .inr ⟨b, hb, h1, by rw [← (hN2 b hNb).2]; exact h2⟩
    have own2' : ∀ c, Own β2 L2 c → Own β1 (look B1) c ∨ (Own β L0 c ∧ ¬ Own (pickMap β rs) (look sub) c) := by
      intro c h
      rcases own2 c h with ⟨i, b, hi, h1, h2⟩ | ⟨b, hb, h1, h2⟩
      · exact .inl ⟨i, h1, h2⟩
      · refine .inr ⟨⟨b, h1, h2⟩, fun hc => ?_⟩
        obtain ⟨b', g1, g2, g3⟩ := ownc c hc
        have := hS0.inj b b' c h1 g2 h2 g3
        subst this
        exact hb (mem_ks b g1)
    have all2 : ∀ c, c < w.heap.size → All X β2 L2 c → All X β L0 c := by
      rintro c hc (h | h)
      · exact .inl h
      · rcases own2' c h with h | ⟨h, _⟩
        · obtain ⟨b, _, g2, g3⟩ := ownc c (own1 c hc h); exact .inr ⟨b, g2, g3⟩
        · exact .inr h
    have notc : ∀ c, ¬ All X β L0 c → ¬ Own (pickMap β rs) (look sub) c := fun c h hc => by
      obtain ⟨b, _, g2, g3⟩ := ownc c hc; exact h (.inr ⟨b, g2, g3⟩)
    have mv : Mv (All X β L0) β N w (All X β2 L2) β2 N2 w' := ⟨hF2.size, fun c hc h => ⟨fun h' => h (all2 c hc h'), (hF2.blk c hc (notc c h)).2⟩, hF2.shape, fun b h => (hN2 b h).1, fun b h => (hN2 b h).2⟩
    obtain ⟨hrY, hbY⟩ := hY (All X β2 L2) (fun c h => Or.elim h .inl fun h => .inr ((own2' c h).elim .inr .inl))
    have hback : ∀ i b, ks[i]? = some b → i < B1.length → N2 b ∧ β2 b = β1 i := by
      intro i b hi _
      refine ⟨?_, hkβ i b hi⟩
      rcases hkget i b hi with ⟨h1, h2⟩ | ⟨h1, h2, rfl⟩
      · refine .inl (hS.dom b fun hd => ?_)
        have := c4 b (List.mem_of_getElem? h2)
        rw [hd] at this
        simp [Box.isDead] at this
      · exact .inr (by omega)
    have hFr : Fr (Own β (look B)) w (Own β2 L2) w' := by
      refine ⟨hF2.os, hF2.tape, hF2.output, hF2.size, fun c hc ho => ⟨fun h => ?_, (hF2.blk c hc fun h => ho ?_).2⟩, hF2.shape⟩
      · rcases own2' c h with h | ⟨h, _⟩
        · obtain ⟨q, _, g2, g3⟩ := ownc c (own1 c hc h); exact ho (hO0 c ⟨q, g2, g3⟩)
        · exact ho (hO0 c h)
      · obtain ⟨q, _, g2, g3⟩ := ownc c h; exact hO0 c ⟨q, g2, g3⟩
    refine ⟨β2, N2, ⟨?_, ?_, ?_, ?_, ?_, hS.tabs' hFr⟩, VR.ren (fun i => ks[i]?) (fun i b hi hl => hback i b hi hl) (fun c h => h) r r' v hr1' hrY, hFr, hN2, ?_⟩
    · intro c h hx
      have hc := hS.old c hx
      rcases own2' c h with h | ⟨h, _⟩
      · exact hS1.apart c (hownL1 c (own1 c hc h)) hx
      · exact hS0.apart c h hx
    · intro b b' c l1 l2 e1 e2
      have cross : ∀ i b, ks[i]? = some b → (look B1 i).live = true → β1 i = some c → ∀ b', b' ∉ ks → (L0 b').live = true → β b' = some c → False := by
        intro i b hi h1 h2 b' hb' h3 h4
        have hc := ownLt hS0 c ⟨b', h3, h4⟩
        obtain ⟨q, g1, g2, g3⟩ := ownc c (own1 c hc ⟨i, h1, h2⟩)
        have := hS0.inj b' q c h3 g2 h4 g3
        subst this
        exact hb' (mem_ks b' g1)
      have side : ∀ b, (L2 b).live = true → β2 b = some c → (∃ i, ks[i]? = some b ∧ (look B1 i).live = true ∧ β1 i = some c) ∨ (b ∉ ks ∧ (L0 b).live = true ∧ β b = some c) := by
        intro b h1 h2
        by_cases hb : b ∈ ks
        · obtain ⟨i, hi⟩ := kof b hb
          rw [z1 i b hi, Box.ren_live (hB1get i b hi)] at h1
          exact .inl ⟨i, hi, h1, by rw [← hkβ i b hi]; exact h2⟩
        · rw [z2 b hb] at h1
          have hNb := hS0.dom b (fun e => by rw [e] at h1; simp [Box.live] at h1)
          exact .inr ⟨hb, h1, by rw [← (hN2 b hNb).2]; exact h2⟩
      rcases side b l1 e1 with ⟨i, hi, h1, h2⟩ | ⟨hb, h1, h2⟩ <;> rcases side b' l2 e2 with ⟨j, hj, h3, h4⟩ | ⟨hb', h3, h4⟩
      · have := hS2.inj i j c h1 h3 h2 h4
        subst this
        rw [hi] at hj
        exact Option.some.inj hj
      · exact (cross i b hi h1 h2 b' hb' h3 h4).elim
      · exact (cross j b' hj h3 h4 b hb h1 h2).elim
      · exact hS0.inj b b' c h1 h3 h2 h4
    · intro b
      by_cases hb : b ∈ ks
      · obtain ⟨i, hi⟩ := kof b hb
        rw [z1 i b hi]
        exact BoxR.ren (f := fun i => ks[i]?) (β := β1) (N := (· < B1.length)) (fun i b hi hl => hback i b hi hl) (fun c h => h) (hB1get i b hi) (hkβ i b hi) (hbY i)
      · rw [z2 b hb]
        by_cases hd : L0 b = .dead
        · rw [hd]; trivial
        · refine (hS0.box b).move mv (hS0.dom b hd) fun c hc hne => (hF2.blk c (hS0.lt hd hc) fun ho => ?_).2
          obtain ⟨q, g1, g2, g3⟩ := ownc c ho
          cases hq : (L0 b).live with
          | true =>
            have := hS0.inj b q c hq g2 hc g3
            subst this
            exact hb (mem_ks b g1)
          | false =>
            have hbx := hS0.box b
            cases hL : L0 b with
            | dead => exact hd hL
            | cells l => rw [hL] at hq; simp [Box.live] at hq
            | arr t l m =>
              rw [hL] at hq hbx
              obtain ⟨_, hbx⟩ := hbx
              rcases hbx with ⟨g, _⟩ | ⟨c', a1, e1, k1, k2, k3, k4, _⟩
              · rw [hc] at g; cases g
              · rw [hc] at k1
                cases k1
                exact k4.1 (by simpa [Box.live] using hq) (.inr ⟨q, g2, g3⟩)
    · intro b hd
      by_cases hb : b ∈ ks
      · obtain ⟨i, hi⟩ := kof b hb
        exact (hback i b hi (by have := (List.getElem?_eq_some_iff.1 hi).1; omega)).1
      · rw [z2 b hb] at hd
        exact (hN2 b (hS0.dom b hd)).1
    · intro c hc
      exact Nat.lt_of_lt_of_le (hS.old c hc) hF2.size
    · rintro b (hb | hb)
      · exact .inl hb
      · refine .inr ⟨hb.1, by omega, ?_⟩
        have hlt : rs.length + (b - al) < B1.length := by omega
        have hk : ks[rs.length + (b - al)]? = some b := by
          rw [← hks, List.getElem?_append_right (by omega), List.getElem?_map, show rs.length + (b - al) - rs.length = b - al by omega, List.getElem?_range (by omega)]
          simp
          omega
        rw [z1 _ b hk]
        intro hd
        have hg := hB1get _ b hk
        rw [hd] at hg
        have hx := c5 (look B1 (rs.length + (b - al))) (by
          rw [List.mem_iff_getElem?]
          exact ⟨b - al, by rw [List.getElem?_drop]; simp [look, List.getD_eq_getElem?_getD, List.getElem?_eq_getElem hlt]⟩)
        cases hq : look B1 (rs.length + (b - al)) with
        | dead => rw [hq] at hx; simp [Box.isDead] at hx
        | cells l => rw [hq] at hg; simp only [Box.ren] at hg; split at hg <;> simp at hg
        | arr t l m => rw [hq] at hg; simp [Box.ren] at hg
  rw [updsL_append]
  split
  · rename_i hflat
    simp only [Bool.and_eq_true, List.all_eq_true] at hflat
    refine fin (look B) hS (fun _ _ => rfl) (fun _ h => h) (fun c h => ?_) fun Y _ => ⟨VR.flat r v hflat.1 hrv, fun i => ?_⟩
    · exact Classical.byContradiction fun hn => (hF1.blk c (ownLt hS1 c h) hn).1 h
    · by_cases hi : i < B1.length
      · exact (hS2.box i).flat (hflat.2 _ (by simp [look, List.getD_eq_getElem?_getD, List.getElem?_eq_getElem hi]))
      · have : look B1 i = .dead := by unfold look; rw [List.getD_eq_getElem?_getD, List.getElem?_eq_none (by omega)]; rfl
        rw [this]; trivial
  · rw [hL1]
    refine fin L1 hS1 hLB (fun c h => Classical.byContradiction fun hn => (hF1.blk c (ownLt hS1 c h) hn).1 h) (fun _ h => h) fun Y hY => ?_
    have hsub : ∀ c, Y c → All (fun c => All X β L1 c ∧ ¬ Own (pickMap β rs) (look sub) c) β1 (look B1) c := by
      intro c h
      rcases hY c h with h | ⟨h, h2⟩ | h
      · exact .inl ⟨.inl h, fun ho => hS1.apart c (hownL1 c ho) h⟩
      · exact .inl ⟨.inr h, h2⟩
      · exact .inr h
    have mv : Mv (All (fun c => All X β L1 c ∧ ¬ Own (pickMap β rs) (look sub) c) β1 (look B1)) β1 (· < B1.length) w' Y β1 (· < B1.length) w' :=
      ⟨Nat.le_refl _, fun c _ h => ⟨fun h' => h (hsub c h'), rfl⟩, fun c arr e fz h => ⟨arr, fz, h, rfl⟩, fun _ h => h, fun _ _ => rfl⟩
    refine ⟨hrv.move mv, fun i => ?_⟩
    by_cases hd : look B1 i = .dead
    · rw [hd]; trivial
    · exact (hS2.box i).move mv (hS2.dom i hd) fun _ _ _ => rfl

end
end Go.Ev
