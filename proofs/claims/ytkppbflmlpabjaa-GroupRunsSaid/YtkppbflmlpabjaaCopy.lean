/- copy onto the beginning of a row that the call itself owns, elements of any number of cells: a law for a walk, in the print's words. Plain lemmas; no statement of the program. -/
import Derived.Test.YtkppbflmlpabjaaWMore
import Derived.Laws.CopyOwn
namespace Go.Proofs.Ytkppbflmlpabjaa.Copy
open Go.RowKit Go.Proofs.YtkppbflmlpabjaaW.PrintWords
set_option linter.unusedVariables false
variable {P : Program}

theorem run_copy_none_s (w : World) (dT sT ty elem : TypeId) (d a : Option Addr) (dLen dCap sLen sCap s : Nat) (hu : P.underlying dT = some (.slice elem)) (hs : (P.info? elem).map (·.size) = some s) (hn : Nat.min sLen dLen = 0) :
    (Builtin.copy_ #[dT, sT] ty #[.slice d dLen dCap, .slice a sLen sCap]).run P w = .ok (goInt 0) w := by
  cases hq : P.info? elem with
  | none => simp [hq] at hs
  | some i =>
    have hl : ∀ (x : Addr), (loadCells x 0).run P w = .ok #[] w := fun x => by simpa using run_loadCells_list (P := P) w x [] (by simp)
    cases d <;> cases a <;> simp [Builtin.copy_, run_underlying hu, Builtin.lenOf, Builtin.firstCells, sizeOf, typeInfo, hq, hn, storeCells, hl]
theorem run_copy_row_s (w : World) (dT sT ty elem : TypeId) (g dLen dCap : Nat) (a : Addr) (sLen sCap s : Nat) (cur : Array Value) (t : TypeId) (cs : List Value)
    (hu : P.underlying dT = some (.slice elem)) (hs : (P.info? elem).map (·.size) = some s)
    (hg : w.heap[g]? = some (.cells cur t (0, 0))) (hn : cs.length = Nat.min sLen dLen * s)
    (hsrc : ∀ j v, cs[j]? = some v → w.cell? (a.add j) = some v) (hfit : cs.length ≤ cur.size) (h1 : ∀ v ∈ cs, v.oneCell' = true) :
    (Builtin.copy_ #[dT, sT] ty #[.slice (some ⟨g, 0, none⟩) dLen dCap, .slice (some a) sLen sCap]).run P w =
      .ok (goInt (Nat.min sLen dLen)) (w.setRow g (cs ++ cur.toList.drop cs.length).toArray) := by
  have hl := run_loadCells_list (P := P) w a cs hsrc
  have hst := run_storeCells_at P g 0 t cs 0 cur w hg (by simpa using hfit) h1
  cases hq : P.info? elem with
  | none => simp [hq] at hs
  | some i =>
    have hi : i.size = s := by simpa [hq] using hs
    rw [hn] at hl
    simp only [Nat.zero_add, List.take_zero, List.nil_append] at hst
    simp [Builtin.copy_, run_underlying hu, Builtin.lenOf, Builtin.firstCells, sizeOf, typeInfo, hq, hi, hl, hst]
/-- Elements whose cells are all that there is of them: no rows inside. -/
def Flat {α : Type} (d : Kd α) : Prop := ∀ w w' base ok x cs, d.K w x cs → d.M w' base ok x cs
theorem flat_int (k : IntKind) : Flat (Kd.int k) := fun _ _ _ _ _ _ h => h
theorem flat_bool : Flat Kd.bool := fun _ _ _ _ _ _ h => h
theorem flat_string : Flat Kd.string := fun _ _ _ _ _ _ h => h
theorem flat_pair {α β : Type} {a : Kd α} {b : Kd β} (ha : Flat a) (hb : Flat b) : Flat (Kd.pair a b) := fun w w' base ok x cs h => by
  obtain ⟨c0, c1, e, h0, h1⟩ := h
  exact ⟨c0, c1, e, ha _ _ _ _ _ _ h0, hb _ _ _ _ _ _ h1⟩
theorem flat_iso {α β : Type} {a : Kd α} (ha : Flat a) (f : β → α) : Flat (Kd.iso a f) := fun w w' base ok x cs h => ha w w' base ok (f x) cs h
theorem reps_one {α : Type} {d : Kd α} {W : World} {ys : List α} {cs : List Value} (hs0 : 0 < d.sz) (h : Reps (d.K W) d.sz ys cs) : ∀ u ∈ cs, u.oneCell' = true := by
  intro u hu
  obtain ⟨q, hq, rfl⟩ := List.mem_iff_getElem.1 hu
  have hql : q / d.sz < ys.length := by
    rw [Nat.div_lt_iff_lt_mul hs0, ← h.1]; exact hq
  have hc := h.2 (q / d.sz) _ (List.getElem?_eq_getElem hql)
  refine d.K_one hc _ ?_
  rw [List.mem_iff_getElem?]
  refine ⟨q % d.sz, ?_⟩
  rw [List.getElem?_take, if_pos (Nat.mod_lt _ hs0), List.getElem?_drop, Nat.mul_comm, Nat.div_add_mod, List.getElem?_eq_getElem hq]
theorem reps_over {α : Type} {R R' : α → List Value → Prop} {sz : Nat} {xs ys : List α} {inner cs : List Value} (hx : Reps R sz xs inner) (hy : Reps R' sz ys cs) (hR : ∀ p c, R' p c → R p c) (hm : ys.length ≤ xs.length) :
    Reps R sz (ys ++ xs.drop ys.length) (cs ++ inner.drop cs.length) := by
  have hle : cs.length ≤ inner.length := by rw [hx.1, hy.1]; exact Nat.mul_le_mul_right _ hm
  refine ⟨by rw [List.length_append, List.length_drop, hx.1, hy.1, List.length_append, List.length_drop, ← Nat.sub_mul, ← Nat.add_mul], fun j p hj => ?_⟩
  rcases Nat.lt_or_ge j ys.length with h | h
  · rw [List.getElem?_append_left h] at hj
    have h2 := hR _ _ (hy.2 j p hj)
    have h3 : j * sz + sz ≤ cs.length := by rw [hy.1, ← Nat.succ_mul]; exact Nat.mul_le_mul_right _ h
    rw [List.drop_append_of_le_length (by omega), List.take_append_of_le_length (by rw [List.length_drop]; omega)]
    exact h2
  · rw [List.getElem?_append_right h, List.getElem?_drop] at hj
    have e : ys.length + (j - ys.length) = j := by omega
    rw [e] at hj
    have h2 := hx.2 j p hj
    have h3 : cs.length ≤ j * sz := by rw [hy.1]; exact Nat.mul_le_mul_right _ h
    rw [List.drop_append, List.drop_eq_nil_of_le h3, List.nil_append, List.drop_drop]
    have e2 : cs.length + (j * sz - cs.length) = j * sz := by omega
    rw [e2]
    exact h2
theorem wpList_copy_R {α : Type} (d : Kd α) (hF : Flat d) {w0 W : World} {ops : Array Oper} {rest : List Oper} {o : Oper} {a : Act} {Q : Exit → Act → World → Prop} (base e : Nat) (hgd : o.guard = none) (dO sO : Operand) (t : TypeId)
    (ho : o.op = .call { callee := .builtin .copy, args := #[dO, sO], argTypes := #[t, t] }) (ht : P.underlying t = some (.slice e)) (hsz : (P.info? e).map (·.size) = some d.sz) (hs0 : 0 < d.sz)
    (v : Value) (xs ys : List α) (A : Option Addr) (m c : Nat) (ok : Nat → Prop) (hd : a.eval dO = v) (hs : a.eval sO = .slice A m c)
    (HO : d.R e W base ok v xs) (HC : d.C W A m ys) (hm : m ≤ xs.length) (HB : Below base w0 W)
    (h : ∀ w1, d.R e w1 base ok v (ys ++ xs.drop m) → Below base w0 w1 → W.grownBy w1 v.ownBlock → wpList P ops Q rest (a.put o.dst (goInt m)) w1) : wpList P ops Q (o :: rest) a W := by
  have hml : ys.length = m := HC.1
  obtain ⟨hok, inner, hown, hr⟩ := HO
  have hrun : ∃ w1, (Builtin.copy_ #[t, t] o.type #[v, .slice A m c]).run P W = .ok (goInt m) w1 ∧ d.R e w1 base ok v (ys ++ xs.drop m) ∧ Below base w0 w1 ∧ W.grownBy w1 v.ownBlock := by
    rcases Nat.eq_zero_or_pos m with h0 | h0
    · subst h0
      obtain rfl : ys = [] := List.eq_nil_of_length_eq_zero hml
      refine ⟨W, ?_, by rw [List.drop_zero, List.nil_append]; exact ⟨hok, inner, hown, hr⟩, HB, World.grownBy.refl W _⟩
      rcases hown.2 with ⟨rfl, _⟩ | ⟨g, cap, cur, rfl, _⟩
      · exact run_copy_none_s W t t o.type e none A 0 0 0 c d.sz ht hsz rfl
      · exact run_copy_none_s W t t o.type e _ A _ _ 0 c d.sz ht hsz (Nat.zero_min _)
    · rcases hown.2 with ⟨rfl, hn⟩ | ⟨g, cap, cur, rfl, hbg, hg, hnc, hcm, hcs, hct⟩
      · omega
      · obtain ⟨ad, hA, _⟩ := HC.2.2 h0
        subst hA
        obtain ⟨cs, hnr, hnc2⟩ := ReadsRow.inner_ HC
        have hlen : cs.length = m * d.sz := by rw [hnr.1, hml]
        have hone := reps_one hs0 hnr
        have hmin : Nat.min m xs.length = m := Nat.min_eq_left hm
        have hle : m * d.sz ≤ xs.length * d.sz := Nat.mul_le_mul_right _ hm
        have hle2 : xs.length * d.sz ≤ cap * d.sz := Nat.mul_le_mul_right _ hnc
        have hrun := run_copy_row_s W t t o.type e g xs.length cap ad m c d.sz cur e cs ht hsz hg (by rw [hmin, hlen]) hnc2 (by rw [hlen, hcs]; omega) hone
        rw [hmin] at hrun
        have hinner : inner.length = xs.length * d.sz := hown.1
        have hset := setRow_heap W g cur (cs ++ cur.toList.drop cs.length).toArray e (0, 0) hg
        have hnew : (cs ++ cur.toList.drop cs.length).toArray.size = cap * d.sz := by
          have : cur.toList.length = cap * d.sz := by rw [Array.length_toList]; exact hcs
          simp only [List.size_toArray, List.length_append, List.length_drop, this]; omega
        have htake : (cs ++ cur.toList.drop cs.length).take (xs.length * d.sz) = cs ++ inner.drop cs.length := by
          rw [← hct, List.take_append, List.take_of_length_le (by omega), List.drop_take]
        refine ⟨_, hrun, ⟨hok, cs ++ inner.drop cs.length, ⟨?_, .inr ⟨g, cap, _, ?_, hbg, hset, ?_, hcm, hnew, ?_⟩⟩, ?_⟩, below_setRow HB hbg _, ?_⟩
        · rw [List.length_append, List.length_drop, List.length_append, List.length_drop, hinner, hlen, hml, ← Nat.sub_mul, ← Nat.add_mul]
        · rw [List.length_append, List.length_drop, hml]; congr 1; omega
        · rw [List.length_append, List.length_drop, hml]; omega
        · have e1 : (ys ++ xs.drop m).length = xs.length := by rw [List.length_append, List.length_drop, hml]; omega
          rw [e1]; exact htake
        · have := reps_over (R := d.M (W.setRow g (cs ++ cur.toList.drop cs.length).toArray) base (fun k => ok k ∧ some k ≠ (Value.slice (some ⟨g, 0, none⟩) xs.length cap).ownBlock)) (R' := d.K W)
            (hr.imp_ (fun p c hp => hF _ _ _ _ _ _ (d.K_of_M hp))) hnr (fun p c hp => hF _ _ _ _ _ _ hp) (by omega)
          rw [hml] at this
          exact this
        · exact ⟨rfl, rfl, rfl, by simp [World.setRow], fun i hi hne => setRow_other W g i _ (fun e => hne (by rw [e]; rfl))⟩
  obtain ⟨w1, hr1, h2, h3, h4⟩ := hrun
  refine wpList_plain hgd fun K hK => ?_
  unfold Oper.wp
  simp [execOp, ho, resolve, invoke, builtin, hd, hs, hr1, Result.andThen]
  exact hK _ _ (h w1 h2 h3 h4)
end Go.Proofs.Ytkppbflmlpabjaa.Copy
