/- Regions, in the order of the text and in an open order. No condition. -/
import Derived.Test.YtnmakkgomplchaaGreatDoorEvX
import Derived.Orders
namespace Go.Ev
set_option linter.unusedVariables false
set_option linter.unusedSimpArgs false
set_option linter.unusedSectionVars false
variable [Ctx]

theorem setE_get (B : Boxes) (i : Nat) (x : Box) (k : Nat) : (setE B i x)[k]? = if k = i then some x else if k < B.length then B[k]? else if k < i then some .dead else none := by
  unfold setE
  split
  · rename_i h
    rw [List.getElem?_set]
    by_cases e : i = k
    · subst e; simp [h]
    · simp only [e, if_false, Ne.symm e]
      split
      · rfl
      · rename_i h2
        rw [List.getElem?_eq_none (by omega), if_neg (by omega)]
  · rename_i h
    rw [List.append_assoc, List.getElem?_append]
    split
    · rename_i h2
      rw [if_neg (by omega)]
    · rename_i h2
      rw [List.getElem?_append]
      simp only [List.length_replicate]
      split
      · rename_i h3
        rw [List.getElem?_replicate, if_pos (by omega), if_neg (by omega), if_pos (by omega)]
      · rename_i h3
        by_cases e : k = i
        · subst e; simp
        · rw [if_neg e, if_neg (by omega)]
          exact List.getElem?_eq_none (by simp; omega)

theorem setE_length (B : Boxes) (i : Nat) (x : Box) : (setE B i x).length = max B.length (i + 1) := by
  unfold setE
  split
  · simp; omega
  · simp; omega

theorem setE_comm (B : Boxes) {i j : Nat} (x y : Box) (h : i ≠ j) : setE (setE B i x) j y = setE (setE B j y) i x := by
  apply List.ext_getElem?
  intro k
  simp only [setE_get, setE_length]
  (repeat' split) <;> first | rfl | (exfalso; omega)

theorem upd_cons (B : Boxes) (i : Nat) (x : Box) (ws : List (Nat × Box)) : upd B ((i, x) :: ws) = upd (setE B i x) ws := rfl

theorem upd_setE : ∀ (ws : List (Nat × Box)) (B : Boxes) (i : Nat) (x : Box), i ∉ ws.map (·.1) → upd (setE B i x) ws = setE (upd B ws) i x
  | [], B, i, x, _ => rfl
  | (j, y) :: ws, B, i, x, h => by
    simp only [List.map_cons, List.mem_cons, not_or] at h
    rw [upd_cons, upd_cons, setE_comm B x y h.1]
    exact upd_setE ws _ i x h.2

theorem upd_comm : ∀ (xs ys : List (Nat × Box)) (B : Boxes), (∀ b, b ∈ xs.map (·.1) → b ∉ ys.map (·.1)) → upd (upd B xs) ys = upd (upd B ys) xs
  | [], ys, B, _ => rfl
  | (i, x) :: xs, ys, B, h => by
    rw [upd_cons, upd_cons, upd_comm xs ys _ (fun b hb => h b (List.mem_cons_of_mem _ hb)), upd_setE ys B i x (h i (List.mem_cons_self ..))]

theorem upd_len (ws : List (Nat × Box)) : ∀ (B : Boxes), B.length ≤ (upd B ws).length := by
  induction ws with
  | nil => intro B; exact Nat.le_refl _
  | cons p ws ih =>
    intro B
    obtain ⟨i, x⟩ := p
    rw [upd_cons]
    refine Nat.le_trans ?_ (ih _)
    rw [setE_length]; omega

theorem upd_mem (ws : List (Nat × Box)) : ∀ (B : Boxes), ∀ b, b ∈ ws.map (·.1) → b < (upd B ws).length := by
  induction ws with
  | nil => intro B b hb; simp at hb
  | cons p ws ih =>
    intro B b hb
    obtain ⟨i, x⟩ := p
    rw [upd_cons]
    simp only [List.map_cons, List.mem_cons] at hb
    rcases hb with rfl | hb
    · refine Nat.lt_of_lt_of_le ?_ (upd_len ws _)
      rw [setE_length]; omega
    · exact ih _ b hb

theorem setD_comm (env : Env) {x y : Option Nat} (v u : AV) (h : ∀ d, x = some d → y ≠ some d) : setD (setD env x v) y u = setD (setD env y u) x v := by
  cases x with
  | none => rfl
  | some d =>
    cases y with
    | none => rfl
    | some e =>
      have hne : d ≠ e := fun he => h d rfl (he ▸ rfl)
      simp only [setD]
      exact List.set_comm _ _ hne

theorem setD_get {env : Env} {x : Option Nat} {v : AV} {i : Nat} (h : ∀ d, x = some d → i ≠ d) : (setD env x v).getD i .top = env.getD i .top := by
  cases x with
  | none => rfl
  | some d =>
    have := h d rfl
    simp [setD, List.getD_eq_getElem?_getD, List.getElem?_set, Ne.symm this]

theorem disj_spec {a b : List Nat} (h : disj a b = true) : ∀ x, x ∈ a → x ∉ b := by
  intro x hx hb
  simp only [disj, List.all_eq_true] at h
  have := h x hx
  simp [hb] at this

section
variable {byref : FuncId → Bool} {call : Caller}

theorem swap {oj oi : AOper} {env env1 env2 : Env} {B B1 B2 : Boxes} {alj ali : Nat} {rsj wsj rsi wsi : List Nat} (h1 : (evOper byref call oj env B alj).run = some (env1, B1, rsj, wsj)) (h2 : (evOper byref call oi env1 B1 ali).run = some (env2, B2, rsi, wsi))
    (hap : Rec.apart ⟨oj.dst, oj.looks, rsj, wsj⟩ ⟨oi.dst, oi.looks, rsi, wsi⟩ = true) :
    ∃ env1' B1', (evOper byref call oi env B ali).run = some (env1', B1', rsi, wsi) ∧ (evOper byref call oj env1' B1' alj).run = some (env2, B2, rsj, wsj) := by
  simp only [Rec.apart, Bool.and_eq_true] at hap
  obtain ⟨⟨⟨⟨a1, a2⟩, a3⟩, a4⟩, a5⟩ := hap
  have d1 : ∀ d, oj.dst = some d → d ∉ oi.looks ∧ oi.dst ≠ some d := by
    intro d hd
    rw [hd] at a1
    simpa using a1
  have d2 : ∀ d, oi.dst = some d → d ∉ oj.looks := by
    intro d hd
    rw [hd] at a2
    simpa using a2
  obtain ⟨v0, x0, e1, e2, e3, _⟩ := evOper_local (B' := B) (env2 := env) h1 (fun _ _ => rfl) (fun _ _ => rfl)
  have l1 : ∀ b, b ∈ rsi → look B b = look B1 b := by
    intro b hb
    rw [e2, look_upd]
    refine (updsL_other _ _ ?_).symm
    rw [← e3]
    exact fun hw => disj_spec a3 b hw hb
  obtain ⟨vi, xi, f1, f2, f3, f4⟩ := evOper_local (B' := B) (env2 := env) h2 l1 (fun i hi => by
    rw [e1]
    exact (setD_get fun d hd e => (d1 d hd).1 (e ▸ hi)).symm)
  have l2 : ∀ b, b ∈ rsj → look (upd B xi) b = look B b := by
    intro b hb
    rw [look_upd]
    refine updsL_other _ _ ?_
    rw [← f3]
    exact fun hw => disj_spec a5 b hw hb
  obtain ⟨vj, xj, g1, g2, g3, g4⟩ := evOper_local (B' := upd B xi) (env2 := setD env oi.dst vi) h1 l2 (fun i hi => setD_get fun d hd e => d2 d hd (e ▸ hi))
  refine ⟨_, _, f4, ?_⟩
  rw [g4, f1, f2, g1, g2, setD_comm env vj vi (fun d hd => (d1 d hd).2), upd_comm xj xi B (fun b hb hb' => disj_spec a4 b (g3 ▸ hb) (f3 ▸ hb'))]

/-- A row of operations, each at its place. -/
def Seq (byref : FuncId → Bool) (call : Caller) (base : Nat) : List (Nat × AOper × Rec) → Env → Boxes → Env → Boxes → Prop
  | [], env, B, env', B' => env = env' ∧ B = B'
  | x :: rest, env, B, env', B' => ∃ e1 B1, (evOper byref call x.2.1 env B (base + x.1 * room)).run = some (e1, B1, x.2.2.reads, x.2.2.writes) ∧ x.2.2 = ⟨x.2.1.dst, x.2.1.looks, x.2.2.reads, x.2.2.writes⟩ ∧ Seq byref call base rest e1 B1 env' B'

theorem Seq.front {base : Nat} {z : Nat × AOper × Rec} {ys : List (Nat × AOper × Rec)} {env' : Env} {B' : Boxes} : ∀ (xs : List (Nat × AOper × Rec)) (env : Env) (B : Boxes), Seq byref call base (xs ++ z :: ys) env B env' B' → (∀ x, x ∈ xs → Rec.apart x.2.2 z.2.2 = true) →
    Seq byref call base (z :: (xs ++ ys)) env B env' B'
  | [], env, B, h, _ => h
  | x :: xs, env, B, h, hap => by
    obtain ⟨e1, B1, h1, h2, h3⟩ := h
    obtain ⟨e2, B2, h4, h5, h6⟩ := Seq.front xs e1 B1 h3 (fun y hy => hap y (List.mem_cons_of_mem _ hy))
    have ha := hap x (List.mem_cons_self ..)
    rw [h2, h5] at ha
    obtain ⟨e1', B1', g1, g2⟩ := swap h1 h4 ha
    exact ⟨e1', B1', g1, h5, e2, B2, g2, h2, h6⟩

theorem Seq.of_draw {base : Nat} : ∀ (os : List AOper) (i : Nat) (env : Env) (B : Boxes) (env' : Env) (B' : Boxes) (recs : List Rec), (evDrawGo byref call base i os env B).run = some (env', B', recs) →
    ∃ l : List (Nat × AOper × Rec), Seq byref call base l env B env' B' ∧ l.length = os.length ∧ recs.length = os.length ∧ ∀ k x, l[k]? = some x → x.1 = i + k ∧ os[k]? = some x.2.1 ∧ recs[k]? = some x.2.2
  | [], i, env, B, env', B', recs, h => by
    simp only [evDrawGo, M.run, Option.some.injEq, Prod.mk.injEq] at h
    obtain ⟨rfl, rfl, rfl⟩ := h
    exact ⟨[], ⟨rfl, rfl⟩, rfl, rfl, fun k x hx => by simp at hx⟩
  | o :: os, i, env, B, env', B', recs, h => by
    simp only [evDrawGo] at h
    obtain ⟨⟨e1, B1, rs, ws⟩, h1, h2⟩ := run_bind_some h
    obtain ⟨⟨e2, B2, recs'⟩, h3, h4⟩ := run_bind_some h2
    simp only [M.run, Option.some.injEq, Prod.mk.injEq] at h4
    obtain ⟨rfl, rfl, rfl⟩ := h4
    obtain ⟨l, g1, g2, g3, g4⟩ := Seq.of_draw os (i + 1) e1 B1 _ _ recs' h3
    refine ⟨(i, o, ⟨o.dst, o.looks, rs, ws⟩) :: l, ⟨e1, B1, h1, rfl, g1⟩, by simp [g2], by simp [g3], fun k x hx => ?_⟩
    cases k with
    | zero =>
      simp only [List.getElem?_cons_zero, Option.some.injEq] at hx
      subst hx
      exact ⟨rfl, rfl, rfl⟩
    | succ k =>
      obtain ⟨q1, q2, q3⟩ := g4 k x (by simpa using hx)
      exact ⟨by omega, by simpa using q2, by simpa using q3⟩

end

theorem apartGo_spec {r : Rec} {j : Nat} : ∀ (bits : List Nat) (xs : List Rec), apartGo r j bits xs = true → ∀ (m : Nat) (x : Rec), xs[m]? = some x → ∃ b : Nat, bits[m]? = some b ∧ (b.testBit j = true ∨ Rec.apart r x = true)
  | bits, [], h, m, x, hx => by simp at hx
  | [], y :: xs, h, m, x, hx => by simp [apartGo] at h
  | b :: bs, y :: xs, h, m, x, hx => by
    simp only [apartGo, Bool.and_eq_true, Bool.or_eq_true] at h
    cases m with
    | zero =>
      simp only [List.getElem?_cons_zero, Option.some.injEq] at hx
      subst hx
      exact ⟨b, rfl, h.1⟩
    | succ m =>
      obtain ⟨b', h1, h2⟩ := apartGo_spec bs xs h.2 m x (by simpa using hx)
      exact ⟨b', by simpa using h1, h2⟩

theorem apartAll_spec : ∀ (recs : List Rec) (j : Nat) (bits : List Nat), apartAll j bits recs = true → ∀ (p q : Nat) (x y : Rec), p < q → recs[p]? = some x → recs[q]? = some y → ∃ b : Nat, bits[q]? = some b ∧ (b.testBit (j + p) = true ∨ Rec.apart x y = true)
  | [], j, bits, h, p, q, x, y, hpq, hx, hy => by simp at hx
  | r :: rs, j, bits, h, p, q, x, y, hpq, hx, hy => by
    simp only [apartAll, Bool.and_eq_true] at h
    obtain ⟨q, rfl⟩ : ∃ q', q = q' + 1 := ⟨q - 1, by omega⟩
    cases p with
    | zero =>
      simp only [List.getElem?_cons_zero, Option.some.injEq] at hx
      subst hx
      obtain ⟨b, h1, h2⟩ := apartGo_spec _ rs h.1 q y (by simpa using hy)
      exact ⟨b, by simpa [Nat.add_comm] using h1, h2⟩
    | succ p =>
      obtain ⟨b, h1, h2⟩ := apartAll_spec rs (j + 1) _ h.2 p q x y (by omega) (by simpa using hx) (by simpa using hy)
      exact ⟨b, by simpa [Nat.add_comm] using h1, by rw [show j + (p + 1) = j + 1 + p from by omega]; exact h2⟩

/-- The bits of one. -/
theorem bits_spec (acc : List Nat) : ∀ (es : List Nat) (s j : Nat), (es.foldl (fun s e => s ||| 2 ^ e ||| acc.getD e 0) s).testBit j = true → s.testBit j = true ∨ ∃ e, e ∈ es ∧ (j = e ∨ (acc.getD e 0).testBit j = true)
  | [], s, j, h => .inl h
  | e :: es, s, j, h => by
    simp only [List.foldl_cons] at h
    rcases bits_spec acc es _ j h with h1 | ⟨e', h1, h2⟩
    · simp only [Nat.testBit_or, Bool.or_eq_true] at h1
      rcases h1 with (h1 | h1) | h1
      · exact .inl h1
      · rw [Nat.testBit_two_pow] at h1
        exact .inr ⟨e, List.mem_cons_self .., .inl (by simpa using (of_decide_eq_true h1).symm)⟩
      · exact .inr ⟨e, List.mem_cons_self .., .inr h1⟩
    · exact .inr ⟨e', List.mem_cons_of_mem _ h1, h2⟩

def AheadOK (acc : List Nat) (done : List (List Nat)) : Prop :=
  ∀ (i b j : Nat), acc[i]? = some b → b.testBit j = true → ∃ es, done[i]? = some es ∧ ∃ e, e ∈ es ∧ (j = e ∨ (e < i ∧ ∃ b' : Nat, acc[e]? = some b' ∧ b'.testBit j = true))

theorem ahead_go : ∀ (rest : List (List Nat)) (acc : List Nat) (done : List (List Nat)), acc.length = done.length → AheadOK acc done →
    AheadOK (rest.foldl (fun acc es => acc ++ [es.foldl (fun s e => s ||| 2 ^ e ||| acc.getD e 0) 0]) acc) (done ++ rest)
  | [], acc, done, hl, h => by simpa using h
  | es :: rest, acc, done, hl, h => by
    simp only [List.foldl_cons]
    have := ahead_go rest (acc ++ [es.foldl (fun s e => s ||| 2 ^ e ||| acc.getD e 0) 0]) (done ++ [es]) (by simp [hl]) ?_
    · simpa using this
    · intro i b j hb hj
      rcases Nat.lt_or_ge i acc.length with hi | hi
      · rw [List.getElem?_append_left hi] at hb
        obtain ⟨es', h1, e, h2, h3⟩ := h i b j hb hj
        refine ⟨es', by rw [List.getElem?_append_left (by omega)]; exact h1, e, h2, h3.imp id ?_⟩
        rintro ⟨h4, b', h5, h6⟩
        exact ⟨h4, b', by rw [List.getElem?_append_left (by omega)]; exact h5, h6⟩
      · rw [List.getElem?_append_right hi] at hb
        have hi' : i = acc.length := by
          apply Classical.byContradiction
          intro hn
          rw [List.getElem?_eq_none (by simp; omega)] at hb
          cases hb
        subst hi'
        simp only [Nat.sub_self, List.getElem?_cons_zero, Option.some.injEq] at hb
        subst hb
        refine ⟨es, by rw [List.getElem?_append_right (by omega)]; simp [hl], ?_⟩
        rcases bits_spec acc es 0 j hj with h1 | ⟨e, h1, h2⟩
        · simp at h1
        · refine ⟨e, h1, h2.imp id fun h3 => ?_⟩
          rcases Nat.lt_or_ge e acc.length with he | he
          · refine ⟨he, acc[e], ?_, ?_⟩
            · rw [List.getElem?_append_left he, List.getElem?_eq_getElem he]
            · simpa [List.getD_eq_getElem?_getD, List.getElem?_eq_getElem he] using h3
          · simp [List.getD_eq_getElem?_getD, List.getElem?_eq_none he] at h3

theorem ahead_spec (after : List (List Nat)) : AheadOK (ahead after) after := by
  have := ahead_go after [] [] rfl (fun i b j h => by simp at h)
  simpa [ahead] using this

end Go.Ev
