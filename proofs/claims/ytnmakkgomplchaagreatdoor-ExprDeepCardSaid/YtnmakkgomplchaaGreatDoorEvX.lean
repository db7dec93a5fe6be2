/- What an operation comes to hangs on the boxes that it reads alone. No condition. -/
import Derived.Test.YtnmakkgomplchaaGreatDoorEvW
namespace Go.Ev
set_option linter.unusedVariables false
set_option linter.unusedSimpArgs false
set_option linter.unusedSectionVars false
variable [Ctx]

section
variable {B B' : Boxes}

theorem run_bind_mk {α β : Type} {m m' : M α} {f f' : α → M β} {a : α} {b : β} (h1 : m'.run = some a) (h2 : (f' a).run = some b) : (m'.bind f').run = some b := by
  rw [M.run_bind, h1]; exact h2

theorem cellsAt_local {p : AV} {n : Nat} {r : List AV × List Nat} (h : (cellsAt B p n).run = some r) (hl : ∀ b, b ∈ r.2 → look B' b = look B b) : (cellsAt B' p n).run = some r := by
  unfold cellsAt at h
  split at h
  · rename_i b off
    split at h
    · rename_i l hb
      obtain ⟨h1, h2⟩ := (M.run_ifb _ _ _).1 h
      simp only [M.run, Option.some.injEq] at h2
      subst h2
      have e := hl b (by simp)
      simp only [cellsAt, e, hb]
      exact h
    · simp [M.run] at h
  · rename_i b i sz off
    split at h
    · rename_i t l m hb
      obtain ⟨h1, h2⟩ := (M.run_ifb _ _ _).1 h
      obtain ⟨h3, h4⟩ := (M.run_chk _ _ _).1 h2
      simp only [M.run, Option.some.injEq] at h4
      subst h4
      have e := hl b (by simp)
      simp only [cellsAt, e, hb]
      exact h
    · simp [M.run] at h
  · exact h
  · simp [M.run] at h

theorem toD_local {a : AV} {r : D × List (Nat × Box)} (h : (toD B a).run = some r) (hl : ∀ b, b ∈ r.2.map (·.1) → look B' b = look B b) : (toD B' a).run = some r := by
  unfold toD at h
  split at h
  · exact h
  · rename_i b off len sz cap
    split at h
    · rename_i t l m hb
      obtain ⟨h1, h2⟩ := (M.run_ifb _ _ _).1 h
      obtain ⟨h3, h4⟩ := (M.run_chk _ _ _).1 h2
      simp only [M.run, Option.some.injEq] at h4
      subst h4
      have e := hl b (by simp)
      simp only [toD, e, hb]
      exact h
    · simp [M.run] at h
  · simp [M.run] at h

theorem toDs_local : ∀ {as : List AV} {r : List D × List (Nat × Box)}, (toDs B as).run = some r → (∀ b, b ∈ r.2.map (·.1) → look B' b = look B b) → (toDs B' as).run = some r
  | [], r, h, _ => h
  | a :: as, r, h, hl => by
    simp only [toDs] at h ⊢
    obtain ⟨⟨x, ws⟩, h1, h2⟩ := run_bind_some h
    obtain ⟨⟨xs, vs⟩, h3, h4⟩ := run_bind_some h2
    simp only [M.run, Option.some.injEq] at h4
    subst h4
    refine run_bind_mk (m := toD B a) (f := fun _ => .fail) (toD_local h1 fun b hb => hl b (by simp at hb ⊢; exact .inl hb)) ?_
    refine run_bind_mk (m := toDs B as) (f := fun _ => .fail) (toDs_local h3 fun b hb => hl b (by simp at hb ⊢; exact .inr hb)) ?_
    rfl

theorem cellsD_local : ∀ {as : List AV} {r : List (List D) × List (Nat × Box)}, (cellsD B as).run = some r → (∀ b, b ∈ r.2.map (·.1) → look B' b = look B b) → (cellsD B' as).run = some r
  | [], r, h, _ => h
  | a :: as, r, h, hl => by
    simp only [cellsD] at h ⊢
    obtain ⟨⟨x, ws⟩, h1, h2⟩ := run_bind_some h
    obtain ⟨⟨xs, vs⟩, h3, h4⟩ := run_bind_some h2
    simp only [M.run, Option.some.injEq] at h4
    subst h4
    refine run_bind_mk (m := toDs B a.cells) (f := fun _ => .fail) (toDs_local h1 fun b hb => hl b (by simp at hb ⊢; exact .inl hb)) ?_
    refine run_bind_mk (m := cellsD B as) (f := fun _ => .fail) (cellsD_local h3 fun b hb => hl b (by simp at hb ⊢; exact .inr hb)) ?_
    rfl

theorem content_local {t : Ty} {a : AV} {r : List t.den × List Nat} (h : (content B t a).run = some r) (hl : ∀ b, b ∈ r.2 → look B' b = look B b) : (content B' t a).run = some r := by
  unfold content at h
  split at h
  · exact h
  · exact h
  · exact h
  · rename_i b off len sz cap
    split at h
    · rename_i t' l m hb
      have e : look B' b = look B b := by
        split at h
        · obtain ⟨h1, h2⟩ := (M.run_ifb _ _ _).1 h
          obtain ⟨h3, h4⟩ := (M.run_chk _ _ _).1 h2
          simp only [M.run, Option.some.injEq] at h4
          subst h4
          exact hl b (by simp)
        · simp [M.run] at h
      simp only [content, e, hb]
      exact h
    · simp [M.run] at h
  · simp [M.run] at h

theorem headOf_local {t : Ty} {a : AV} {r : Nat × List t.den × List Nat} (h : (headOf B t a).run = some r) (hl : ∀ b, b ∈ r.2.2 → look B' b = look B b) : (headOf B' t a).run = some r := by
  unfold headOf at h ⊢
  split at h
  · rename_i b off len sz cap
    split at h
    · rename_i t' l m hb
      obtain ⟨⟨ys, rs⟩, h1, h2⟩ := run_bind_some h
      simp only [M.run, Option.some.injEq] at h2
      subst h2
      have hmem : b ∈ rs := by
        unfold content at h1
        simp only [hb] at h1
        split at h1
        · obtain ⟨_, h3⟩ := (M.run_ifb _ _ _).1 h1
          obtain ⟨_, h4⟩ := (M.run_chk _ _ _).1 h3
          simp only [M.run, Option.some.injEq, Prod.mk.injEq] at h4
          rw [← h4.2]
          simp
        · simp [M.run] at h1
      have e : look B' b = look B b := hl b hmem
      simp only [e, hb]
      exact run_bind_mk (m := M.ret (ys, rs)) (f := fun _ => .fail) (content_local h1 hl) rfl
    · simp [M.run] at h
  · obtain ⟨⟨ys, rs⟩, h1, h2⟩ := run_bind_some h
    simp only [M.run, Option.some.injEq] at h2
    subst h2
    exact run_bind_mk (m := M.ret (ys, rs)) (f := fun _ => .fail) (content_local h1 hl) rfl

mutual
theorem snap_local : ∀ (a : AV) {r : AV × List (Nat × Box)}, (snap B a).run = some r → (∀ b, b ∈ r.2.map (·.1) → look B' b = look B b) → (snap B' a).run = some r
  | .sr b off len sz cap, r, h, hl => by
    unfold snap at h ⊢
    obtain ⟨⟨x, ws⟩, h1, h2⟩ := run_bind_some h
    simp only [M.run, Option.some.injEq] at h2
    subst h2
    exact run_bind_mk (m := M.ret (x, ws)) (f := fun _ => .fail) (toD_local h1 hl) rfl
  | .agg cs, r, h, hl => by
    unfold snap at h ⊢
    obtain ⟨⟨x, ws⟩, h1, h2⟩ := run_bind_some h
    simp only [M.run, Option.some.injEq] at h2
    subst h2
    exact run_bind_mk (m := M.ret (x, ws)) (f := fun _ => .fail) (snapL_local cs h1 hl) rfl
  | .tup cs, r, h, hl => by
    unfold snap at h ⊢
    obtain ⟨⟨x, ws⟩, h1, h2⟩ := run_bind_some h
    simp only [M.run, Option.some.injEq] at h2
    subst h2
    exact run_bind_mk (m := M.ret (x, ws)) (f := fun _ => .fail) (snapL_local cs h1 hl) rfl
  | .fn g cs, r, h, hl => by
    unfold snap at h ⊢
    obtain ⟨⟨x, ws⟩, h1, h2⟩ := run_bind_some h
    simp only [M.run, Option.some.injEq] at h2
    subst h2
    exact run_bind_mk (m := M.ret (x, ws)) (f := fun _ => .fail) (snapL_local cs h1 hl) rfl
  | .top, r, h, hl => by unfold snap at h ⊢; exact h
  | .d x, r, h, hl => by unfold snap at h ⊢; exact h
  | .ptr .., r, h, hl => by unfold snap at h ⊢; exact h
  | .eptr .., r, h, hl => by unfold snap at h ⊢; exact h
  | .cptr .., r, h, hl => by unfold snap at h ⊢; exact h
  | .snil .., r, h, hl => by unfold snap at h ⊢; exact h
  | .ifc .., r, h, hl => by unfold snap at h ⊢; exact h
theorem snapL_local : ∀ (as : List AV) {r : List AV × List (Nat × Box)}, (snapL B as).run = some r → (∀ b, b ∈ r.2.map (·.1) → look B' b = look B b) → (snapL B' as).run = some r
  | [], r, h, hl => by unfold snapL at h ⊢; exact h
  | a :: as, r, h, hl => by
    unfold snapL at h ⊢
    obtain ⟨⟨x, ws⟩, h1, h2⟩ := run_bind_some h
    obtain ⟨⟨xs, vs⟩, h3, h4⟩ := run_bind_some h2
    simp only [M.run, Option.some.injEq] at h4
    subst h4
    refine run_bind_mk (m := M.ret (x, ws)) (f := fun _ => .fail) (snap_local a h1 fun b hb => hl b (by simp at hb ⊢; exact .inl hb)) ?_
    refine run_bind_mk (m := M.ret (xs, vs)) (f := fun _ => .fail) (snapL_local as h3 fun b hb => hl b (by simp at hb ⊢; exact .inr hb)) ?_
    rfl
end

theorem reachGo_mem : ∀ (n : Nat) (done todo : List Nat) {b : Nat}, b ∈ done → b ∈ reachGo B n done todo
  | 0, done, todo, b, h => h
  | n + 1, done, [], b, h => h
  | n + 1, done, c :: todo, b, h => by
    simp only [reachGo]
    split
    · exact reachGo_mem n _ _ h
    · exact reachGo_mem n _ _ (by simp [h])

theorem reachGo_local : ∀ (n : Nat) (done todo : List Nat), (∀ b, b ∈ reachGo B n done todo → look B' b = look B b) → reachGo B' n done todo = reachGo B n done todo
  | 0, done, todo, h => rfl
  | n + 1, done, [], h => rfl
  | n + 1, done, c :: todo, h => by
    simp only [reachGo] at h ⊢
    split
    · rename_i hc
      rw [if_pos hc] at h
      exact reachGo_local n _ _ h
    · rename_i hc
      rw [if_neg hc] at h
      rw [h c (reachGo_mem n _ _ (by simp))]
      exact reachGo_local n _ _ h

theorem lt_of_look {b : Nat} (h : (look B b).isDead = false) : b < B.length := by
  apply Classical.byContradiction
  intro hn
  simp [look, List.getD_eq_getElem?_getD, List.getElem?_eq_none (Nat.not_lt.1 hn), Box.isDead] at h

theorem evCallOp_local {byref : FuncId → Bool} {call : Caller} {f : FuncId} {args : List AV} {al : Nat} {res : Res} (h : (evCallOp byref call f args B al).run = some res) (hl : ∀ b, b ∈ res.reads → look B' b = look B b) :
    (evCallOp byref call f args B' al).run = some res := by
  unfold evCallOp at h ⊢
  obtain ⟨⟨as, ws⟩, h1, h2⟩ := run_bind_some h
  simp only at h2
  obtain ⟨as', h3, h4⟩ := run_bind_some h2
  obtain ⟨sub, h5, h6⟩ := run_bind_some h4
  obtain ⟨h7, h8⟩ := (M.run_ifb _ _ _).1 h6
  obtain ⟨⟨r, B1⟩, h9, h10⟩ := run_bind_some h8
  simp only at h10
  obtain ⟨h11, h12⟩ := (M.run_ifb _ _ _).1 h10
  obtain ⟨r', h13, h14⟩ := run_bind_some h12
  obtain ⟨B1', h15, h16⟩ := run_bind_some h14
  simp only [M.run, Option.some.injEq] at h16
  subst h16
  simp only at hl
  have hr : ∀ b, b ∈ reachGo B 1000 [] (AV.refs.refsL as) → look B' b = look B b := fun b hb => hl b (List.mem_append_left _ hb)
  have e1 := reachGo_local 1000 [] (AV.refs.refsL as) hr
  have e2 : (if byref f then M.ret (args, []) else snapL B' args).run = some (as, ws) := by
    split
    · rename_i hb; rw [if_pos hb] at h1; exact h1
    · rename_i hb; rw [if_neg hb] at h1; exact snapL_local args h1 fun b hb => hl b (List.mem_append_right _ hb)
  have hd : ∀ b, b ∈ reachGo B 1000 [] (AV.refs.refsL as) → (look B b).isDead = false := by
    simp only [Bool.and_eq_true, List.all_eq_true] at h11
    intro b hb
    simpa using h11.1.2 b hb
  have e3 : (pickBoxes B' (reachGo B 1000 [] (AV.refs.refsL as))).run = some sub := by
    unfold pickBoxes at h5 ⊢
    obtain ⟨h17, h18⟩ := (M.run_ifb _ _ _).1 h5
    refine (M.run_ifb _ _ _).2 ⟨?_, ?_⟩
    · simp only [Bool.and_eq_true, List.all_eq_true] at h17 ⊢
      refine ⟨h17.1, fun b hb => ?_⟩
      have : b < B'.length := lt_of_look (B := B') (by rw [hr b hb]; exact hd b hb)
      rw [Nat.blt, Nat.ble_eq]; exact this
    · rw [show (reachGo B 1000 [] (AV.refs.refsL as)).map (look B') = (reachGo B 1000 [] (AV.refs.refsL as)).map (look B) from List.map_congr_left hr]
      exact h18
  refine run_bind_mk (m := M.ret (as, ws)) (f := fun _ => .fail) e2 ?_
  simp only [e1]
  refine run_bind_mk (m := M.ret as') (f := fun _ => .fail) h3 ?_
  refine run_bind_mk (m := M.ret sub) (f := fun _ => .fail) e3 ?_
  refine (M.run_ifb _ _ _).2 ⟨h7, ?_⟩
  refine run_bind_mk (m := M.ret (r, B1)) (f := fun _ => .fail) h9 ?_
  refine (M.run_ifb _ _ _).2 ⟨?_, h12⟩
  rw [← h11]
  congr 2
  rw [Bool.eq_iff_iff]
  simp only [List.all_eq_true]
  constructor
  · intro hh b hb
    rw [← hr b hb]; exact hh b hb
  · intro hh b hb
    rw [hr b hb]; exact hh b hb

theorem evOp_local {byref : FuncId → Bool} {call : Caller} {op : AOp} {args : List AV} {al : Nat} {res : Res} (h : (evOp byref call op args B al).run = some res) (hl : ∀ b, b ∈ res.reads → look B' b = look B b) :
    (evOp byref call op args B' al).run = some res := by
  unfold evOp at h
  split at h
  case h_7 t n ix =>
    obtain ⟨h1, h2⟩ := (M.run_ifb _ _ _).1 h
    obtain ⟨⟨cs, ws⟩, h3, h4⟩ := run_bind_some h2
    obtain ⟨l, h5, h6⟩ := run_bind_some h4
    simp only [M.run, Option.some.injEq] at h6
    subst h6
    unfold evOp
    refine (M.run_ifb _ _ _).2 ⟨h1, ?_⟩
    refine run_bind_mk (m := M.ret (cs, ws)) (f := fun _ => .fail) (cellsD_local h3 hl) ?_
    exact run_bind_mk (m := M.ret l) (f := fun _ => .fail) h5 rfl
  case h_8 agg n p =>
    obtain ⟨⟨cs, rs⟩, h1, h2⟩ := run_bind_some h
    unfold evOp
    refine run_bind_mk (m := M.ret (cs, rs)) (f := fun _ => .fail) (cellsAt_local h1 fun b hb => hl b ?_) h2
    simp only at h2
    split at h2
    · simp only [M.run, Option.some.injEq] at h2
      subst h2; exact hb
    · simp only [M.run, Option.some.injEq] at h2
      subst h2; exact hb
    · simp [M.run] at h2
  case h_9 n p v =>
    obtain ⟨h1, h2⟩ := (M.run_ifb _ _ _).1 h
    unfold evOp
    refine (M.run_ifb _ _ _).2 ⟨h1, ?_⟩
    split at h2
    · rename_i b off
      split at h2
      · rename_i l hb
        have e := hl b (by
          obtain ⟨_, h3⟩ := (M.run_ifb _ _ _).1 h2
          simp only [M.run, Option.some.injEq] at h3
          subst h3
          simp)
        simp only [e, hb]
        exact h2
      · simp [M.run] at h2
    · rename_i b i sz off
      split at h2
      · rename_i t l hb
        obtain ⟨h3, h4⟩ := (M.run_ifb _ _ _).1 h2
        obtain ⟨h5, h6⟩ := (M.run_chk _ _ _).1 h4
        obtain ⟨⟨cs, ws⟩, h7, h8⟩ := run_bind_some h6
        obtain ⟨h9, h10⟩ := (M.run_ifb _ _ _).1 h8
        obtain ⟨x, h11, h12⟩ := run_bind_some h10
        simp only [M.run, Option.some.injEq] at h12
        subst h12
        have e := hl b (by simp)
        simp only [e, hb]
        refine (M.run_ifb _ _ _).2 ⟨h3, (M.run_chk _ _ _).2 ⟨h5, ?_⟩⟩
        refine run_bind_mk (m := M.ret (cs, ws)) (f := fun _ => .fail) (toDs_local h7 fun c hc => hl c (List.mem_cons_of_mem _ hc)) ?_
        exact (M.run_ifb _ _ _).2 ⟨h9, run_bind_mk (m := M.ret x) (f := fun _ => .fail) h11 rfl⟩
      · simp [M.run] at h2
    · simp [M.run] at h2
  case h_23 t bytes x y =>
    obtain ⟨h1, h2⟩ := (M.run_ifb _ _ _).1 h
    obtain ⟨⟨ys, ry⟩, h3, h4⟩ := run_bind_some h2
    simp only at h4
    unfold evOp
    refine (M.run_ifb _ _ _).2 ⟨h1, ?_⟩
    split at h4
    · have key : ∀ c, c ∈ ry → c ∈ res.reads := by
        simp only [M.run] at h4
        cases hd : ys.isEmpty <;> simp only [hd, cond_true, cond_false] at h4
        · obtain ⟨_, h5⟩ := (M.run_chk _ _ _).1 h4
          simp only [M.run, Option.some.injEq] at h5
          subst h5
          exact fun c hc => hc
        · simp only [M.run, Option.some.injEq] at h4
          subst h4
          exact fun c hc => hc
      exact run_bind_mk (m := M.ret (ys, ry)) (f := fun _ => .fail) (content_local h3 fun c hc => hl c (key c hc)) h4
    · rename_i b off len sz cap
      have key : ∀ c, c ∈ b :: ry → c ∈ res.reads := by
        split at h4
        · split at h4
          · obtain ⟨_, h5⟩ := (M.run_ifb _ _ _).1 h4
            obtain ⟨_, h6⟩ := (M.run_chk _ _ _).1 h5
            split at h6
            · obtain ⟨_, h7⟩ := (M.run_ifb _ _ _).1 h6
              obtain ⟨_, h8⟩ := (M.run_chk _ _ _).1 h7
              simp only [M.run, Option.some.injEq] at h8
              subst h8
              exact fun c hc => hc
            · obtain ⟨_, h7⟩ := (M.run_chk _ _ _).1 h6
              simp only [M.run] at h7
              generalize decide (len + ys.length ≤ _) = q at h7
              cases q <;> simp only [cond_true, cond_false] at h7
              · simp only [M.run, Option.some.injEq] at h7
                subst h7
                exact fun c hc => hc
              · obtain ⟨_, h8⟩ := (M.run_ifb _ _ _).1 h7
                simp only [M.run, Option.some.injEq] at h8
                subst h8
                exact fun c hc => hc
          · simp [M.run] at h4
        · simp [M.run] at h4
      refine run_bind_mk (m := M.ret (ys, ry)) (f := fun _ => .fail) (content_local h3 fun c hc => hl c (key c (List.mem_cons_of_mem _ hc))) ?_
      simp only [hl b (key b (List.mem_cons_self ..))]
      exact h4
    · simp [M.run] at h4
  case h_24 n x y =>
    unfold evOp
    split at h
    · rename_i b off len sz cap
      split at h
      · rename_i t l hb
        obtain ⟨h3, h4⟩ := (M.run_ifb _ _ _).1 h
        obtain ⟨h5, h6⟩ := (M.run_chk _ _ _).1 h4
        obtain ⟨⟨m, ys, ry⟩, h7, h8⟩ := run_bind_some h6
        obtain ⟨h9, h10⟩ := (M.run_chk _ _ _).1 h8
        simp only [M.run, Option.some.injEq] at h10
        subst h10
        have e := hl b (by simp)
        simp only [e, hb]
        refine (M.run_ifb _ _ _).2 ⟨h3, (M.run_chk _ _ _).2 ⟨h5, ?_⟩⟩
        exact run_bind_mk (m := M.ret (m, ys, ry)) (f := fun _ => .fail) (headOf_local h7 fun c hc => hl c (List.mem_cons_of_mem _ hc)) ((M.run_chk _ _ _).2 ⟨h9, rfl⟩)
      · simp [M.run] at h
    · simp [M.run] at h
  case h_32 f =>
    unfold evOp
    exact evCallOp_local h hl
  case h_33 f caps as =>
    unfold evOp
    exact evCallOp_local h hl
  case h_34 ty x =>
    unfold evOp
    split at h
    · rename_i b off len sz cap
      split at h
      · rename_i t l hb
        have e := hl b (by
          split at h
          · obtain ⟨_, h3⟩ := (M.run_ifb _ _ _).1 h
            obtain ⟨_, h4⟩ := (M.run_chk _ _ _).1 h3
            simp only [M.run, Option.some.injEq] at h4
            subst h4
            simp
          · simp [M.run] at h)
        simp only [e, hb]
        exact h
      · simp [M.run] at h
    · simp [M.run] at h
  case h_37 x =>
    unfold evOp
    obtain ⟨h0, h⟩ := (M.run_ifb _ _ _).1 h
    obtain ⟨⟨l, rs⟩, h1, h2⟩ := run_bind_some h
    simp only [M.run, Option.some.injEq] at h2
    subst h2
    exact (M.run_ifb _ _ _).2 ⟨h0, run_bind_mk (m := .fail) (f := fun _ => .fail) (content_local h1 hl) rfl⟩
  case h_40 p k n =>
    unfold evOp
    obtain ⟨hk, h2⟩ := (M.run_ifb _ _ _).1 h
    refine (M.run_ifb _ _ _).2 ⟨hk, ?_⟩
    clear h
    split at h2
    · exact h2
    · rename_i b
      split at h2
      · rename_i l hb
        have e := hl b (by
          obtain ⟨_, h4⟩ := (M.run_chk _ _ _).1 h2
          simp only [M.run, Option.some.injEq] at h4
          subst h4
          simp)
        simp only [e, hb]
        exact h2
      · simp [M.run] at h2
    · simp [M.run] at h2
  case h_43 x y =>
    unfold evOp
    split at h
    · rename_i b off la sz cap b' off' lb sz' cap'
      obtain ⟨h1, h2⟩ := (M.run_ifb _ _ _).1 h
      obtain ⟨h3, h4⟩ := (M.run_chk _ _ _).1 h2
      simp only [M.run, Option.some.injEq] at h4
      subst h4
      have e1 := hl b (by simp)
      have e2 := hl b' (by simp)
      simp only [e1, e2]
      exact h
    · simp [M.run] at h
  case h_41 t bytes x k n =>
    unfold evOp
    obtain ⟨h1, h2⟩ := (M.run_ifb _ _ _).1 h
    refine (M.run_ifb _ _ _).2 ⟨h1, ?_⟩
    clear h
    cases x with
    | sr b off len sz cap =>
      cases cap with
      | none => simp [M.run] at h2
      | some k =>
        have e : look B' b = look B b := by
          refine hl b ?_
          simp only at h2
          cases hL : look B b with
          | dead => simp [hL, M.run] at h2
          | cells l => simp [hL, M.run] at h2
          | arr t' l live =>
            rw [hL] at h2
            simp only at h2
            split at h2
            · obtain ⟨_, h3⟩ := (M.run_ifb _ _ _).1 h2
              obtain ⟨_, h4⟩ := (M.run_chk _ _ _).1 h3
              simp only [M.run, Option.some.injEq] at h4
              rw [← h4]
              simp
            · simp [M.run] at h2
        simp only [e]
        exact h2
    | _ => simp [M.run] at h2
  case h_45 => simp [M.run] at h
  all_goals exact h

theorem evOper_local {byref : FuncId → Bool} {call : Caller} {o : AOper} {env env2 : Env} {al : Nat} {env' : Env} {B1 : Boxes} {rs ws : List Nat} (h : (evOper byref call o env B al).run = some (env', B1, rs, ws)) (hl : ∀ b, b ∈ rs → look B' b = look B b)
    (he : ∀ i, i ∈ o.looks → env2.getD i .top = env.getD i .top) :
    ∃ v xs, env' = setD env o.dst v ∧ B1 = upd B xs ∧ ws = xs.map (·.1) ∧ (evOper byref call o env2 B' al).run = some (setD env2 o.dst v, upd B' xs, rs, ws) := by
  have ha : o.args.map (rdA env2) = o.args.map (rdA env) := by
    refine List.map_congr_left fun a ha => ?_
    cases a with
    | val v => rfl
    | tmp i =>
      refine he i ?_
      unfold AOper.looks
      exact List.mem_append_left _ (List.mem_filterMap.2 ⟨_, ha, rfl⟩)
  have one : ∀ {rs : List Nat} {ws : List Nat} {env' : Env} {B1 : Boxes}, ((evOp byref call o.op (o.args.map (rdA env)) B al).bind fun r => M.ret (setD env o.dst r.val, upd B r.writes, r.reads, r.writes.map (·.1))).run = some (env', B1, rs, ws) → (∀ b, b ∈ rs → look B' b = look B b) →
      ∃ v xs, env' = setD env o.dst v ∧ B1 = upd B xs ∧ ws = xs.map (·.1) ∧ ((evOp byref call o.op (o.args.map (rdA env2)) B' al).bind fun r => M.ret (setD env2 o.dst r.val, upd B' r.writes, r.reads, r.writes.map (·.1))).run = some (setD env2 o.dst v, upd B' xs, rs, ws) := by
    intro rs ws env' B1 h hl
    obtain ⟨r, h1, h2⟩ := run_bind_some h
    simp only [M.run, Option.some.injEq, Prod.mk.injEq] at h2
    obtain ⟨rfl, rfl, rfl, rfl⟩ := h2
    refine ⟨r.val, r.writes, rfl, rfl, rfl, ?_⟩
    rw [ha]
    exact run_bind_mk (m := M.ret r) (f := fun _ => .fail) (evOp_local h1 hl) rfl
  unfold evOper at h ⊢
  cases hg : o.guard with
  | none =>
    rw [hg] at h
    exact one h hl
  | some p =>
    obtain ⟨g, want⟩ := p
    rw [hg] at h
    simp only at h ⊢
    have eg : env2.getD g .top = env.getD g .top := he g (by simp [AOper.looks, hg])
    rw [eg]
    split at h
    · rename_i b hb
      simp only [M.run] at h
      split at h
      · rename_i hbw
        obtain ⟨v, xs, h1, h2, h3, h4⟩ := one h hl
        refine ⟨v, xs, h1, h2, h3, ?_⟩
        simp only [M.run, hbw, if_true]
        exact h4
      · rename_i hbw
        simp only [M.run, Option.some.injEq, Prod.mk.injEq] at h
        obtain ⟨rfl, rfl, rfl, rfl⟩ := h
        refine ⟨.tup [], [], rfl, rfl, rfl, ?_⟩
        simp only [M.run, hbw, if_false]
        rfl
    · simp only [M.run, Option.some.injEq, Prod.mk.injEq] at h
      obtain ⟨rfl, rfl, rfl, rfl⟩ := h
      exact ⟨.tup [], [], rfl, rfl, rfl, rfl⟩
    · simp [M.run] at h

end
end Go.Ev
