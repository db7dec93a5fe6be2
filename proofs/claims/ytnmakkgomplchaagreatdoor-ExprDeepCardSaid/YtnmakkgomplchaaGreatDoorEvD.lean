/- The evaluator's operations are the model's: what a step leaves. No condition. -/
import Derived.Test.YtnmakkgomplchaaGreatDoorEvC
namespace Go.Ev
set_option linter.unusedVariables false
set_option linter.unusedSimpArgs false
set_option linter.unusedSectionVars false
variable [Ctx]

theorem mv_of {X : Blocks} {β : Map} {N : Nat → Prop} {w : World} {L : Looks} {β' : Map} {N' : Nat → Prop} {w' : World} {L' : Looks}
    (hf : Fr (Own β L) w (Own β' L') w') (hn : ∀ b, N b → N' b ∧ β' b = β b) : Mv (All X β L) β N w (All X β' L') β' N' w' :=
  ⟨hf.size, fun c hc h => ⟨fun h' => h'.elim (fun hx => h (.inl hx)) (fun ho => (hf.blk c hc fun hh => h (.inr hh)).1 ho), (hf.blk c hc fun hh => h (.inr hh)).2⟩, hf.shape,
   fun b h => (hn b h).1, fun b h => (hn b h).2⟩

/-- What a step leaves: the boxes L', the value. New names lie from 'al' on. -/
def Step (X : Blocks) (β : Map) (N : Nat → Prop) (w : World) (L : Looks) (al : Nat) (L' : Looks) (val : AV) (v : Value) (w' : World) : Prop :=
  ∃ β' N', SimB X β' N' w' L' ∧ VR (All X β' L') β' N' w' val v ∧ Fr (Own β L) w (Own β' L') w' ∧ (∀ b, N b → N' b ∧ β' b = β b) ∧ (∀ b, N' b → N b ∨ (al ≤ b ∧ b < al + room ∧ L' b ≠ .dead))

theorem Step.same {X : Blocks} {β : Map} {N : Nat → Prop} {w : World} {L : Looks} {al : Nat} {val : AV} {v : Value} (h : SimB X β N w L) (hv : VR (All X β L) β N w val v) :
    Step X β N w L al L val v w := ⟨β, N, h, hv, Fr.refl _ _, fun b hb => ⟨hb, rfl⟩, fun b hb => .inl hb⟩

def updL (L : Looks) (i : Nat) (x : Box) : Looks := fun b => if b = i then x else L b

theorem look_setE (B : Boxes) (i : Nat) (x : Box) : look (setE B i x) = updL (look B) i x := by
  funext b
  unfold look setE updL
  split
  · rename_i h
    simp only [List.getD_eq_getElem?_getD, List.getElem?_set]
    by_cases hb : b = i
    · subst hb; simp [h]
    · simp [hb, Ne.symm hb]
  · rename_i h
    simp only [List.getD_eq_getElem?_getD, List.append_assoc]
    rw [List.getElem?_append]
    by_cases hb : b = i
    · subst hb
      rw [if_neg h, List.getElem?_append_right (by simp)]
      simp
    · rw [if_neg hb]
      split
      · rfl
      · rename_i h2
        rw [List.getElem?_append]
        simp only [List.length_replicate]
        split
        · rename_i h3
          rw [List.getElem?_replicate, if_pos h3]
          simp [List.getElem?_eq_none (Nat.le_of_not_lt h2)]
        · rename_i h3
          rw [List.getElem?_eq_none (by simp; omega), List.getElem?_eq_none (by omega)]

theorem length_setE (B : Boxes) (i : Nat) (x : Box) : (setE B i x).length = max B.length (i + 1) := by
  unfold setE
  split
  · simp; omega
  · simp; omega

def updsL (L : Looks) (ws : List (Nat × Box)) : Looks := ws.foldl (fun L (i, x) => updL L i x) L

theorem look_upd : ∀ (ws : List (Nat × Box)) (B : Boxes), look (upd B ws) = updsL (look B) ws
  | [], B => rfl
  | (i, x) :: ws, B => by
    have := look_upd ws (setE B i x)
    rw [look_setE] at this
    exact this

theorem heap_new (w : World) (o : Obj) : (w.alloc o).heap[w.heap.size]? = some o := heap_alloc_new w o
theorem heap_old (w : World) (o : Obj) {c : Nat} (h : c < w.heap.size) : (w.alloc o).heap[c]? = w.heap[c]? := heap_alloc_old w o c h

theorem Fr.alloc (O O' : Blocks) (w : World) (o : Obj) (h : ∀ c, c < w.heap.size → ¬ O c → ¬ O' c) : Fr O w O' (w.alloc o) :=
  ⟨rfl, rfl, rfl, by simp, fun c hc ho => ⟨h c hc ho, heap_old w o hc⟩, fun c arr e fz ha => ⟨arr, fz, by rw [heap_old w o (heap_lt ha)]; exact ha, rfl⟩⟩

/-- A new box over a new block. -/
theorem Step.new {X : Blocks} {β : Map} {N : Nat → Prop} {w : World} {L : Looks} {al : Nat} {x : Box} {o : Obj} {val : AV} {v : Value}
    (h : SimB X β N w L) (ha : ¬ N al) (hx0 : x ≠ .dead)
    (hb : ∀ β' N', Mv (All X β L) β N w (All X β' (updL L al x)) β' N' (w.alloc o) → β' al = some w.heap.size → N' al →
      BoxR (All X β' (updL L al x)) β' N' (w.alloc o) al x ∧ VR (All X β' (updL L al x)) β' N' (w.alloc o) val v) :
    Step X β N w L al (updL L al x) val v (w.alloc o) := by
  have hd : L al = .dead := by
    cases hl : L al with
    | dead => rfl
    | _ => exact (ha (h.dom al (by rw [hl]; simp))).elim
  let β' : Map := fun b => if b = al then some w.heap.size else β b
  let N' : Nat → Prop := fun b => N b ∨ b = al
  have hβ : ∀ b, N b → N' b ∧ β' b = β b := fun b hb => ⟨.inl hb, if_neg fun (e : b = al) => ha (e ▸ hb)⟩
  have hown : ∀ c, Own β' (updL L al x) c → Own β L c ∨ c = w.heap.size := by
    rintro c ⟨b, h1, h2⟩
    by_cases e : b = al
    · subst e
      simp [β'] at h2
      exact .inr h2.symm
    · refine .inl ⟨b, ?_, ?_⟩
      · simpa [updL, e] using h1
      · simpa [β', e] using h2
  have hf : Fr (Own β L) w (Own β' (updL L al x)) (w.alloc o) := Fr.alloc _ _ _ _ fun c hc ho ho' => (hown c ho').elim ho (fun e => by omega)
  have mv := mv_of (X := X) hf hβ
  have oldlt : ∀ b c, L b ≠ .dead → β b = some c → c < w.heap.size := by
    intro b c hne hc
    have := h.box b
    cases hl : L b with
    | dead => exact (hne hl).elim
    | cells l => rw [hl] at this; obtain ⟨c', arr, e, h1, h2, _⟩ := this; rw [hc] at h1; cases h1; exact heap_lt h2
    | arr t l q =>
      rw [hl] at this
      obtain ⟨_, this⟩ := this
      rcases this with ⟨h1, _⟩ | ⟨c', arr, e, h1, h2, _⟩
      · rw [hc] at h1; cases h1
      · rw [hc] at h1; cases h1; exact heap_lt h2
  obtain ⟨hb1, hb2⟩ := hb β' N' mv (if_pos rfl) (.inr rfl)
  refine ⟨β', N', ⟨?_, ?_, ?_, ?_, ?_, h.tabs' hf⟩, hb2, hf, hβ, ?_⟩
  · intro c ho hx
    rcases hown c ho with ho | rfl
    · exact h.apart c ho hx
    · exact absurd (h.old _ hx) (Nat.lt_irrefl _)
  · intro b b' c l1 l2 e1 e2
    by_cases eb : b = al
    · by_cases eb' : b' = al
      · rw [eb, eb']
      · simp [β', eb, eb'] at e1 e2
        simp [updL, eb'] at l2
        have := oldlt b' c (fun e => by rw [e] at l2; simp [Box.live] at l2) e2
        omega
    · by_cases eb' : b' = al
      · simp [β', eb, eb'] at e1 e2
        simp [updL, eb] at l1
        have := oldlt b c (fun e => by rw [e] at l1; simp [Box.live] at l1) e1
        omega
      · simp [β', eb, eb'] at e1 e2
        simp [updL, eb, eb'] at l1 l2
        exact h.inj b b' c l1 l2 e1 e2
  · intro b
    by_cases e : b = al
    · subst e
      rw [show updL L b x b = x from if_pos rfl]
      exact hb1
    · rw [show updL L al x b = L b from if_neg e]
      by_cases hl : L b = .dead
      · rw [hl]; trivial
      · exact (h.box b).move mv (h.dom b hl) fun c hc hne => heap_old w o (oldlt b c hl hc)
  · intro b hl
    by_cases e : b = al
    · exact .inr e
    · exact .inl (h.dom b (by simpa [updL, e] using hl))
  · intro c hx
    have := h.old c hx
    simp; omega
  · rintro b (hb | rfl)
    · exact .inl hb
    · exact .inr ⟨Nat.le_refl _, by simp [room], by simpa [updL] using hx0⟩

theorem SimB.lt {X : Blocks} {β : Map} {N : Nat → Prop} {w : World} {L : Looks} (h : SimB X β N w L) {b c : Nat} (hne : L b ≠ .dead) (hc : β b = some c) : c < w.heap.size := by
  have := h.box b
  cases hl : L b with
  | dead => exact (hne hl).elim
  | cells l => rw [hl] at this; obtain ⟨c', arr, e, h1, h2, _⟩ := this; rw [hc] at h1; cases h1; exact heap_lt h2
  | arr t l q =>
    rw [hl] at this
    obtain ⟨_, this⟩ := this
    rcases this with ⟨h1, _⟩ | ⟨c', arr, e, h1, h2, _⟩
    · rw [hc] at h1; cases h1
    · rw [hc] at h1; cases h1; exact heap_lt h2

/-- A live box is written in place. -/
theorem Step.put' {X : Blocks} {β : Map} {N : Nat → Prop} {w w' : World} {L : Looks} {b c : Nat} {x : Box} {val : AV} {v : Value} {arr arr' : Array Value} {e : TypeId}
    (h : SimB X β N w L) (hl : (L b).live = true) (hx : x.live = true) (hc : β b = some c) (ha : w.heap[c]? = some (.cells arr e (0, 0))) (ha' : w'.heap[c]? = some (.cells arr' e (0, 0)))
    (hsz : arr'.size = arr.size) (hz : w'.heap.size = w.heap.size) (hos : w'.os = w.os) (htp : w'.tape = w.tape) (hou : w'.output = w.output) (hoth : ∀ k, k ≠ c → w'.heap[k]? = w.heap[k]?)
    (hb : Mv (All X β L) β N w (All X β (updL L b x)) β N w' → BoxR (All X β (updL L b x)) β N w' b x ∧ VR (All X β (updL L b x)) β N w' val v) :
    SimB X β N w' (updL L b x) ∧ VR (All X β (updL L b x)) β N w' val v ∧ Fr (Own β L) w (Own β (updL L b x)) w' := by
  have hown : ∀ k, Own β (updL L b x) k ↔ Own β L k := by
    intro k
    constructor
    · rintro ⟨b', h1, h2⟩
      by_cases eb : b' = b
      · subst eb; exact ⟨b', hl, h2⟩
      · exact ⟨b', by simpa [updL, eb] using h1, h2⟩
    · rintro ⟨b', h1, h2⟩
      by_cases eb : b' = b
      · subst eb; exact ⟨b', by simpa [updL] using hx, h2⟩
      · exact ⟨b', by simpa [updL, eb] using h1, h2⟩
  have hf : Fr (Own β L) w (Own β (updL L b x)) w' := by
    refine ⟨hos, htp, hou, by omega, fun k hk ho => ⟨fun ho' => ho ((hown k).1 ho'), hoth k fun e => ho (e ▸ ⟨b, hl, hc⟩)⟩, fun k a q fz hk => ?_⟩
    by_cases ek : k = c
    · subst ek
      rw [ha] at hk
      cases hk
      exact ⟨arr', _, ha', hsz⟩
    · exact ⟨a, fz, by rw [hoth k ek]; exact hk, rfl⟩
  have mv := mv_of (X := X) hf (β' := β) (N := N) (N' := N) fun b hb => ⟨hb, rfl⟩
  obtain ⟨hb1, hb2⟩ := hb mv
  refine ⟨⟨?_, ?_, ?_, ?_, ?_, h.tabs' hf⟩, hb2, hf⟩
  · exact fun k ho => h.apart k ((hown k).1 ho)
  · intro b1 b2 k l1 l2 e1 e2
    refine h.inj b1 b2 k ?_ ?_ e1 e2
    · by_cases eb : b1 = b
      · subst eb; exact hl
      · simpa [updL, eb] using l1
    · by_cases eb : b2 = b
      · subst eb; exact hl
      · simpa [updL, eb] using l2
  · intro b1
    by_cases eb : b1 = b
    · subst eb
      rw [show updL L b1 x b1 = x from if_pos rfl]
      exact hb1
    · rw [show updL L b x b1 = L b1 from if_neg eb]
      by_cases hd : L b1 = .dead
      · rw [hd]; trivial
      · refine (h.box b1).move mv (h.dom b1 hd) fun k hk hne => hoth k fun ek => ?_
        subst ek
        -- the block is the other box's: it is live, or lies out of what is owned
        cases hq : (L b1).live with
        | true => exact eb (h.inj b1 b k hq hl hk hc)
        | false =>
          have hbx := h.box b1
          cases hL : L b1 with
          | dead => exact hne hL
          | cells l => rw [hL] at hq; simp [Box.live] at hq
          | arr t l m =>
            rw [hL] at hq hbx
            obtain ⟨_, hbx⟩ := hbx
            rcases hbx with ⟨g1, _⟩ | ⟨c', a1, e1, g1, g2, g3, g4, _⟩
            · rw [hk] at g1; cases g1
            · rw [hk] at g1
              cases g1
              exact g4.1 (by simpa [Box.live] using hq) (.inr ⟨b, hl, hc⟩)
  · intro b1 hd
    by_cases eb : b1 = b
    · subst eb
      exact h.dom b1 fun e => by rw [e] at hl; simp [Box.live] at hl
    · exact h.dom b1 (by simpa [updL, eb] using hd)
  · intro k hk
    have := h.old k hk
    omega

theorem Step.put {X : Blocks} {β : Map} {N : Nat → Prop} {w w' : World} {L : Looks} {al b c : Nat} {x : Box} {val : AV} {v : Value} {arr arr' : Array Value} {e : TypeId}
    (h : SimB X β N w L) (hl : (L b).live = true) (hx : x.live = true) (hc : β b = some c) (ha : w.heap[c]? = some (.cells arr e (0, 0))) (ha' : w'.heap[c]? = some (.cells arr' e (0, 0)))
    (hsz : arr'.size = arr.size) (hz : w'.heap.size = w.heap.size) (hos : w'.os = w.os) (htp : w'.tape = w.tape) (hou : w'.output = w.output) (hoth : ∀ k, k ≠ c → w'.heap[k]? = w.heap[k]?)
    (hb : Mv (All X β L) β N w (All X β (updL L b x)) β N w' → BoxR (All X β (updL L b x)) β N w' b x ∧ VR (All X β (updL L b x)) β N w' val v) :
    Step X β N w L al (updL L b x) val v w' := by
  obtain ⟨h1, h2, h3⟩ := Step.put' (val := val) (v := v) h hl hx hc ha ha' hsz hz hos htp hou hoth hb
  exact ⟨β, N, h1, h2, h3, fun b hb => ⟨hb, rfl⟩, fun b hb => .inl hb⟩

/-- A row is closed (or dropped). -/
theorem Step.shut {X : Blocks} {β : Map} {N : Nat → Prop} {w : World} {L : Looks} {al b : Nat} {t : Ty} {l : List t.den} {q : Bool}
    (h : SimB X β N w L) (hl : L b = .arr t l q) : SimB X β N w (updL L b (.arr t l false)) ∧ Fr (Own β L) w (Own β (updL L b (.arr t l false))) w := by
  have hown : ∀ k, Own β (updL L b (.arr t l false)) k → Own β L k := by
    rintro k ⟨b', h1, h2⟩
    by_cases eb : b' = b
    · subst eb; simp [updL, Box.live] at h1
    · exact ⟨b', by simpa [updL, eb] using h1, h2⟩
  have hf : Fr (Own β L) w (Own β (updL L b (.arr t l false))) w := ⟨rfl, rfl, rfl, Nat.le_refl _, fun k hk ho => ⟨fun ho' => ho (hown k ho'), rfl⟩, fun k a e fz hk => ⟨a, fz, hk, rfl⟩⟩
  have mv := mv_of (X := X) hf (β' := β) (N := N) (N' := N) fun b hb => ⟨hb, rfl⟩
  refine ⟨⟨fun k ho => h.apart k (hown k ho), ?_, ?_, ?_, h.old, h.tabs' hf⟩, hf⟩
  · intro b1 b2 k l1 l2 e1 e2
    have g : ∀ b1, (updL L b (.arr t l false) b1).live = true → (L b1).live = true := by
      intro b1 l1
      by_cases eb : b1 = b
      · subst eb; simp [updL, Box.live] at l1
      · simpa [updL, eb] using l1
    exact h.inj b1 b2 k (g b1 l1) (g b2 l2) e1 e2
  · intro b1
    by_cases eb : b1 = b
    · subst eb
      rw [show updL L b1 (.arr t l false) b1 = .arr t l false from if_pos rfl]
      have := (h.box b1).move mv (h.dom b1 (by rw [hl]; simp)) (fun _ _ _ => rfl)
      rw [hl] at this
      obtain ⟨h0, this⟩ := this
      refine ⟨h0, ?_⟩
      rcases this with g | ⟨c, arr, e, g1, g2, g3, g4, g5⟩
      · exact .inl g
      · refine .inr ⟨c, arr, e, g1, g2, g3, ⟨fun _ hx => ?_, g4.2⟩, g5⟩
        cases q with
        | false => exact g4.1 rfl hx
        | true =>
          rcases hx with hx | ⟨b2, l2, e2⟩
          · exact h.apart c ⟨b1, by rw [hl]; rfl, g1⟩ hx
          · by_cases eb2 : b2 = b1
            · subst eb2; simp [updL, Box.live] at l2
            · exact eb2 (h.inj b2 b1 c (by simpa [updL, eb2] using l2) (by rw [hl]; rfl) e2 g1)
    · rw [show updL L b (.arr t l false) b1 = L b1 from if_neg eb]
      by_cases hd : L b1 = .dead
      · rw [hd]; trivial
      · exact (h.box b1).move mv (h.dom b1 hd) fun _ _ _ => rfl
  · intro b1 hd
    by_cases eb : b1 = b
    · subst eb; exact h.dom b1 (by rw [hl]; simp)
    · exact h.dom b1 (by simpa [updL, eb] using hd)

theorem Step.kill {X : Blocks} {β : Map} {N : Nat → Prop} {w : World} {L : Looks} {b : Nat}
    (h : SimB X β N w L) : SimB X β N w (updL L b .dead) ∧ Fr (Own β L) w (Own β (updL L b .dead)) w := by
  have hown : ∀ k, Own β (updL L b .dead) k → Own β L k := by
    rintro k ⟨b', h1, h2⟩
    by_cases eb : b' = b
    · subst eb; simp [updL, Box.live] at h1
    · exact ⟨b', by simpa [updL, eb] using h1, h2⟩
  have hf : Fr (Own β L) w (Own β (updL L b .dead)) w := ⟨rfl, rfl, rfl, Nat.le_refl _, fun k hk ho => ⟨fun ho' => ho (hown k ho'), rfl⟩, fun k a e fz hk => ⟨a, fz, hk, rfl⟩⟩
  have mv := mv_of (X := X) hf (β' := β) (N := N) (N' := N) fun b hb => ⟨hb, rfl⟩
  refine ⟨⟨fun k ho => h.apart k (hown k ho), ?_, ?_, ?_, h.old, h.tabs' hf⟩, hf⟩
  · intro b1 b2 k l1 l2 e1 e2
    have g : ∀ b1, (updL L b .dead b1).live = true → (L b1).live = true := by
      intro b1 l1
      by_cases eb : b1 = b
      · subst eb; simp [updL, Box.live] at l1
      · simpa [updL, eb] using l1
    exact h.inj b1 b2 k (g b1 l1) (g b2 l2) e1 e2
  · intro b1
    by_cases eb : b1 = b
    · subst eb
      rw [show updL L b1 .dead b1 = .dead from if_pos rfl]
      trivial
    · rw [show updL L b .dead b1 = L b1 from if_neg eb]
      by_cases hd : L b1 = .dead
      · rw [hd]; trivial
      · exact (h.box b1).move mv (h.dom b1 hd) fun _ _ _ => rfl
  · intro b1 hd
    by_cases eb : b1 = b
    · subst eb; simp [updL] at hd
    · exact h.dom b1 (by simpa [updL, eb] using hd)

/-- A live row goes on under another name. -/
theorem Step.name {X : Blocks} {β : Map} {N : Nat → Prop} {w : World} {L : Looks} {al b : Nat} {t : Ty} {l : List t.den}
    (h : SimB X β N w L) (hl : L b = .arr t l true) (ha : ¬ N al) :
    let β' : Map := fun k => if k = al then β b else β k
    let N' : Nat → Prop := fun k => N k ∨ k = al
    let L' := updL (updL L b .dead) al (.arr t l true)
    SimB X β' N' w L' ∧ Fr (Own β L) w (Own β' L') w ∧ (∀ k, N k → N' k ∧ β' k = β k) ∧ (∀ k, N' k → N k ∨ (al ≤ k ∧ k < al + room ∧ L' k ≠ .dead)) ∧ β' al = β b ∧ N' al := by
  intro β' N' L'
  have hne : b ≠ al := fun e => ha (e ▸ h.dom b (by rw [hl]; simp))
  have hβ : ∀ k, N k → N' k ∧ β' k = β k := fun k hk => ⟨.inl hk, if_neg fun (e : k = al) => ha (e ▸ hk)⟩
  have hd : L al = .dead := by
    cases hq : L al with
    | dead => rfl
    | _ => exact (ha (h.dom al (by rw [hq]; simp))).elim
  have src : ∀ k, (L' k).live = true → ∃ k', (L k').live = true ∧ β' k = β k' ∧ (k = al → k' = b) ∧ (k ≠ al → k' = k ∧ k ≠ b) := by
    intro k hk
    by_cases e : k = al
    · exact ⟨b, by rw [hl]; rfl, if_pos e, fun _ => rfl, fun h => (h e).elim⟩
    · by_cases e2 : k = b
      · subst e2; simp [L', updL, e, Box.live] at hk
      · exact ⟨k, by simpa [L', updL, e, e2] using hk, if_neg e, fun h => (e h).elim, fun _ => ⟨rfl, e2⟩⟩
  have hown : ∀ c, Own β' L' c ↔ Own β L c := by
    intro c
    constructor
    · rintro ⟨k, h1, h2⟩
      obtain ⟨k', g1, g2, _⟩ := src k h1
      exact ⟨k', g1, by rw [← g2]; exact h2⟩
    · rintro ⟨k, h1, h2⟩
      by_cases e : k = b
      · subst e
        exact ⟨al, by simp [L', updL, Box.live], by simpa [β'] using h2⟩
      · have e2 : k ≠ al := fun e => by subst e; rw [hd] at h1; simp [Box.live] at h1
        exact ⟨k, by simpa [L', updL, e, e2] using h1, by simpa [β', e2] using h2⟩
  have hf : Fr (Own β L) w (Own β' L') w := ⟨rfl, rfl, rfl, Nat.le_refl _, fun c hc ho => ⟨fun ho' => ho ((hown c).1 ho'), rfl⟩, fun c a e fz hc => ⟨a, fz, hc, rfl⟩⟩
  have mv := mv_of (X := X) hf hβ
  refine ⟨⟨fun c ho => h.apart c ((hown c).1 ho), ?_, ?_, ?_, h.old, h.tabs' hf⟩, hf, hβ, ?_, if_pos rfl, .inr rfl⟩
  · intro k1 k2 c l1 l2 e1 e2
    obtain ⟨p, p1, p2, p3, p4⟩ := src k1 l1
    obtain ⟨q, q1, q2, q3, q4⟩ := src k2 l2
    have := h.inj p q c p1 q1 (by rw [← p2]; exact e1) (by rw [← q2]; exact e2)
    by_cases a1 : k1 = al
    · by_cases a2 : k2 = al
      · rw [a1, a2]
      · have := p3 a1; have := q4 a2; omega
    · by_cases a2 : k2 = al
      · have := p4 a1; have := q3 a2; omega
      · have := p4 a1; have := q4 a2; omega
  · intro k
    by_cases e : k = al
    · subst e
      rw [show L' k = .arr t l true from if_pos rfl]
      have := (h.box b).move mv (h.dom b (by rw [hl]; simp)) (fun _ _ _ => rfl)
      rw [hl] at this
      obtain ⟨h0, this⟩ := this
      have hb' : β' b = β b := if_neg hne
      have hk' : β' k = β b := if_pos rfl
      refine ⟨h0, ?_⟩
      rw [hk', ← hb']
      exact this
    · by_cases e2 : k = b
      · subst e2
        rw [show L' k = .dead by simp [L', updL, e]]
        trivial
      · rw [show L' k = L k by simp [L', updL, e, e2]]
        by_cases hq : L k = .dead
        · rw [hq]; trivial
        · exact (h.box k).move mv (h.dom k hq) fun _ _ _ => rfl
  · intro k hk
    by_cases e : k = al
    · exact .inr e
    · by_cases e2 : k = b
      · subst e2; exact .inl (h.dom k (by rw [hl]; simp))
      · exact .inl (h.dom k (by simpa [L', updL, e, e2] using hk))
  · rintro k (hk | rfl)
    · exact .inl hk
    · exact .inr ⟨Nat.le_refl _, by simp [room], by simp [L', updL]⟩

end Go.Ev
