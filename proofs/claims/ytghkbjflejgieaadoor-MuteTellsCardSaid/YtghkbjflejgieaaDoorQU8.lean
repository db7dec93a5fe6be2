/- MuteTells: its plain law. -/
import Derived.Test.YtghkbjflejgieaaDoorQU7
import Derived.KernelRfl
namespace Go.Proofs.YtghkbjflejgieaaDoor.Dec
open Go.Ev
set_option linter.unusedVariables false
set_option linter.unusedSimpArgs false
set_option maxRecDepth 100000
set_option maxHeartbeats 20000000
theorem valG_in (l : List Int) (i : Int) : valG l i ∈ valuesG := by
  unfold valG
  refine getD_mem valuesG _ _ ?_
  have : 0 ≤ withinI (pickG l i) (0) (7) ∧ withinI (pickG l i) (0) (7) < 8 := by unfold withinI; omega
  show _ < 8
  omega
theorem val_len {v : Q8} (h : v ∈ valuesG) : 1 ≤ v.length ∧ v.length ≤ 3 := by
  have : ∀ v ∈ valuesG, 1 ≤ v.length ∧ v.length ≤ 3 := by decide
  exact this v h
def set4 (h0 h1 h2 h3 : Bool) (v0 v1 v2 v3 : Q8) : LB := (if h0 then [(([97] : Q8), v0)] else []) ++ (if h1 then [(([98] : Q8), v1)] else []) ++ (if h2 then [(([99] : Q8), v2)] else []) ++ (if h3 then [(([110, 97, 109, 101] : Q8), v3)] else [])
theorem setG_of (k : List Int × List Int) : ∃ h0 h1 h2 v0 v1 v2, setG k = set4 h0 h1 h2 false v0 v1 v2 [120] ∧ v0 ∈ valuesG ∧ v1 ∈ valuesG ∧ v2 ∈ valuesG := by
  refine ⟨bit1 k.1 0 0, bit1 k.1 1 1, bit1 k.1 2 2, valG k.2 0, valG k.2 1, valG k.2 2, ?_, valG_in .., valG_in .., valG_in ..⟩
  unfold setG set4
  simp
theorem set4_right (h0 h1 h2 h3 : Bool) {v0 v1 v2 v3 : Q8} (a0 : 1 ≤ v0.length ∧ v0.length ≤ 3) (a1 : 1 ≤ v1.length ∧ v1.length ≤ 3) (a2 : 1 ≤ v2.length ∧ v2.length ≤ 3) (a3 : 1 ≤ v3.length ∧ v3.length ≤ 3) : lrightG (set4 h0 h1 h2 h3 v0 v1 v2 v3) = true := by
  have w0 : wordG [97] = true := by decide
  have w1 : wordG [98] = true := by decide
  have w2 : wordG [99] = true := by decide
  have w3 : wordG [110, 97, 109, 101] = true := by decide
  have l1 : Op.bytesLess ([97] : Q8) [98] = true := by decide
  have l2 : Op.bytesLess ([97] : Q8) [99] = true := by decide
  have l3 : Op.bytesLess ([98] : Q8) [99] = true := by decide
  have l4 : Op.bytesLess ([97] : Q8) [110, 97, 109, 101] = true := by decide
  have l5 : Op.bytesLess ([98] : Q8) [110, 97, 109, 101] = true := by decide
  have l6 : Op.bytesLess ([99] : Q8) [110, 97, 109, 101] = true := by decide
  have g0 : lab1 (([97] : Q8), v0) = true := by unfold lab1; rw [w0, decide_eq_true a0.1, decide_eq_true (show v0.length ≤ 24 by omega)]; rfl
  have g1 : lab1 (([98] : Q8), v1) = true := by unfold lab1; rw [w1, decide_eq_true a1.1, decide_eq_true (show v1.length ≤ 24 by omega)]; rfl
  have g2 : lab1 (([99] : Q8), v2) = true := by unfold lab1; rw [w2, decide_eq_true a2.1, decide_eq_true (show v2.length ≤ 24 by omega)]; rfl
  have g3 : lab1 (([110, 97, 109, 101] : Q8), v3) = true := by unfold lab1; rw [w3, decide_eq_true a3.1, decide_eq_true (show v3.length ≤ 24 by omega)]; rfl
  cases h0 <;> cases h1 <;> cases h2 <;> cases h3 <;> simp [set4, lrightG, lrise, g0, g1, g2, g3, l1, l2, l3, l4, l5, l6]
theorem set4_len (h0 h1 h2 h3 : Bool) (v0 v1 v2 v3 : Q8) : (set4 h0 h1 h2 h3 v0 v1 v2 v3).length ≤ 4 := by
  cases h0 <;> cases h1 <;> cases h2 <;> cases h3 <;> simp [set4]
theorem set4_pre {l : LB} (h : lrightG l = true) : lrightPre l = true := by
  have := lright_all h
  exact decide_eq_true ⟨by omega, fun z hz => by have := this.2 z hz; omega⟩
theorem escB_sp {c : UInt8} (h : UInt8.toNat c = 34 ∨ UInt8.toNat c = 92) : escB c = [92, c] := if_pos h
theorem escB_no {c : UInt8} (h : ¬ (UInt8.toNat c = 34 ∨ UInt8.toNat c = 92)) : escB c = [c] := if_neg h
theorem esc_inj : ∀ (v v' r r' : Q8), v.flatMap escB ++ 34 :: r = v'.flatMap escB ++ 34 :: r' → v = v' ∧ r = r'
  | [], [], r, r', h => ⟨rfl, (List.cons.inj h).2⟩
  | [], c :: t, r, r', h => by
    exfalso
    rw [List.flatMap_cons, List.append_assoc] at h
    by_cases hc : UInt8.toNat c = 34 ∨ UInt8.toNat c = 92
    · rw [escB_sp hc] at h
      have := (List.cons.inj h).1
      revert this; decide
    · rw [escB_no hc] at h
      have := (List.cons.inj h).1
      exact hc (.inl (by rw [← this]; rfl))
  | c :: t, [], r, r', h => by
    exfalso
    rw [List.flatMap_cons, List.append_assoc] at h
    by_cases hc : UInt8.toNat c = 34 ∨ UInt8.toNat c = 92
    · rw [escB_sp hc] at h
      have := (List.cons.inj h).1
      revert this; decide
    · rw [escB_no hc] at h
      have := (List.cons.inj h).1
      exact hc (.inl (by rw [this]; rfl))
  | c :: t, c' :: t', r, r', h => by
    rw [List.flatMap_cons, List.flatMap_cons, List.append_assoc, List.append_assoc] at h
    by_cases hc : UInt8.toNat c = 34 ∨ UInt8.toNat c = 92
    · by_cases hc' : UInt8.toNat c' = 34 ∨ UInt8.toNat c' = 92
      · rw [escB_sp hc, escB_sp hc'] at h
        obtain ⟨e, h⟩ := List.cons.inj (List.cons.inj h).2
        obtain ⟨e1, e2⟩ := esc_inj t t' r r' h
        exact ⟨by rw [e, e1], e2⟩
      · rw [escB_sp hc, escB_no hc'] at h
        have := (List.cons.inj h).1
        exact absurd (.inr (by rw [← this]; rfl)) hc'
    · by_cases hc' : UInt8.toNat c' = 34 ∨ UInt8.toNat c' = 92
      · rw [escB_no hc, escB_sp hc'] at h
        have := (List.cons.inj h).1
        exact absurd (.inr (by rw [this]; rfl)) hc
      · rw [escB_no hc, escB_no hc'] at h
        obtain ⟨e, h⟩ := List.cons.inj h
        obtain ⟨e1, e2⟩ := esc_inj t t' r r' h
        exact ⟨by rw [e, e1], e2⟩
theorem quote_app (v r : Q8) : quoteG v ++ r = 34 :: (v.flatMap escB ++ 34 :: r) := by unfold quoteG; simp
theorem quote_inj {v v' r r' : Q8} (h : quoteG v ++ r = quoteG v' ++ r') : v = v' ∧ r = r' := by
  rw [quote_app, quote_app] at h
  exact esc_inj v v' r r' (List.cons.inj h).2
theorem name_inj : ∀ (n n' : Q8) {c c' : UInt8} {r r' : Q8}, n.all innerB = true → n'.all innerB = true → innerB c = false → innerB c' = false → n ++ c :: r = n' ++ c' :: r' → n = n' ∧ c :: r = c' :: r'
  | [], [], c, c', r, r', _, _, _, _, h => ⟨rfl, h⟩
  | [], b :: n', c, c', r, r', _, h2, h3, _, h => by
    have := (List.cons.inj h).1
    rw [List.all_cons, Bool.and_eq_true] at h2
    rw [this, h2.1] at h3; cases h3
  | a :: n, [], c, c', r, r', h1, _, _, h4, h => by
    have := (List.cons.inj h).1
    rw [List.all_cons, Bool.and_eq_true] at h1
    rw [← this, h1.1] at h4; cases h4
  | a :: n, b :: n', c, c', r, r', h1, h2, h3, h4, h => by
    rw [List.all_cons, Bool.and_eq_true] at h1 h2
    obtain ⟨e, h⟩ := List.cons.inj h
    obtain ⟨e1, e2⟩ := name_inj n n' h1.2 h2.2 h3 h4 h
    exact ⟨by rw [e, e1], e2⟩
theorem word_inner {n : Q8} (h : wordG n = true) : n.all innerB = true ∧ ∃ a t, n = a :: t ∧ innerB a = true := by
  unfold wordG at h
  simp only [Bool.and_eq_true, decide_eq_true_eq] at h
  refine ⟨h.2, ?_⟩
  cases n with
  | nil => simp at h
  | cons a t => rw [List.all_cons, Bool.and_eq_true] at h; exact ⟨a, t, rfl, h.2.1⟩
def tailJ {α : Type} (it : α → Q8) (xs : List α) (r : Q8) : Q8 := Lib.join (xs.map it) [44] ++ 125 :: r
theorem tailJ_one {α : Type} (it : α → Q8) (a : α) (r : Q8) : tailJ it [a] r = it a ++ 125 :: r := by
  unfold tailJ Lib.join; simp [List.intercalate]
theorem tailJ_two {α : Type} (it : α → Q8) (a b : α) (l : List α) (r : Q8) : tailJ it (a :: b :: l) r = it a ++ 44 :: tailJ it (b :: l) r := by
  unfold tailJ Lib.join; simp [List.intercalate]
theorem tailJ_nil {α : Type} (it : α → Q8) (r : Q8) : tailJ it [] r = 125 :: r := rfl
theorem join_inj {α : Type} (it : α → Q8) (ok : α → Prop) (pf : ∀ x y r r', ok x → ok y → it x ++ r = it y ++ r' → x = y ∧ r = r') (hd : ∀ x, ok x → ∃ a t, it x = a :: t ∧ innerB a = true) :
    ∀ (xs ys : List α) (r r' : Q8), (∀ x ∈ xs, ok x) → (∀ y ∈ ys, ok y) → tailJ it xs r = tailJ it ys r' → xs = ys ∧ r = r'
  | [], [], r, r', _, _, h => ⟨rfl, (List.cons.inj h).2⟩
  | [], y :: ys, r, r', _, h2, h => by
    exfalso
    obtain ⟨a, t, e, ha⟩ := hd y (h2 y (List.mem_cons_self ..))
    have : ∃ q, tailJ it (y :: ys) r' = a :: q := by
      cases ys with
      | nil => exact ⟨_, by rw [tailJ_one, e]; rfl⟩
      | cons b l => exact ⟨_, by rw [tailJ_two, e]; rfl⟩
    obtain ⟨q, hq⟩ := this
    rw [tailJ_nil, hq] at h
    rw [← (List.cons.inj h).1] at ha
    revert ha; decide
  | x :: xs, [], r, r', h1, _, h => by
    exfalso
    obtain ⟨a, t, e, ha⟩ := hd x (h1 x (List.mem_cons_self ..))
    have : ∃ q, tailJ it (x :: xs) r = a :: q := by
      cases xs with
      | nil => exact ⟨_, by rw [tailJ_one, e]; rfl⟩
      | cons b l => exact ⟨_, by rw [tailJ_two, e]; rfl⟩
    obtain ⟨q, hq⟩ := this
    rw [tailJ_nil, hq] at h
    rw [(List.cons.inj h).1] at ha
    revert ha; decide
  | [x], [y], r, r', h1, h2, h => by
    rw [tailJ_one, tailJ_one] at h
    obtain ⟨e1, e2⟩ := pf _ _ _ _ (h1 x (List.mem_cons_self ..)) (h2 y (List.mem_cons_self ..)) h
    exact ⟨by rw [e1], (List.cons.inj e2).2⟩
  | [x], y :: b :: ys, r, r', h1, h2, h => by
    rw [tailJ_one, tailJ_two] at h
    obtain ⟨e1, e2⟩ := pf _ _ _ _ (h1 x (List.mem_cons_self ..)) (h2 y (List.mem_cons_self ..)) h
    have := (List.cons.inj e2).1
    exfalso; revert this; decide
  | x :: b :: xs, [y], r, r', h1, h2, h => by
    rw [tailJ_one, tailJ_two] at h
    obtain ⟨e1, e2⟩ := pf _ _ _ _ (h1 x (List.mem_cons_self ..)) (h2 y (List.mem_cons_self ..)) h
    have := (List.cons.inj e2).1
    exfalso; revert this; decide
  | x :: b :: xs, y :: b' :: ys, r, r', h1, h2, h => by
    rw [tailJ_two, tailJ_two] at h
    obtain ⟨e1, e2⟩ := pf _ _ _ _ (h1 x (List.mem_cons_self ..)) (h2 y (List.mem_cons_self ..)) h
    obtain ⟨e3, e4⟩ := join_inj it ok pf hd (b :: xs) (b' :: ys) r r' (fun z hz => h1 z (List.mem_cons_of_mem _ hz)) (fun z hz => h2 z (List.mem_cons_of_mem _ hz)) (List.cons.inj e2).2
    exact ⟨by rw [e1, e3], e4⟩
theorem litem_pf (x y : (Q8) × (Q8)) (r r' : Q8) (hx : wordG x.1 = true) (hy : wordG y.1 = true) (h : litemG x ++ r = litemG y ++ r') : x = y ∧ r = r' := by
  unfold litemG at h
  simp only [List.append_assoc, List.cons_append, List.nil_append] at h
  obtain ⟨e1, e2⟩ := name_inj _ _ (word_inner hx).1 (word_inner hy).1 (by decide) (by decide) h
  obtain ⟨e3, e4⟩ := quote_inj (List.cons.inj e2).2
  exact ⟨Prod.ext e1 e3, e4⟩
theorem litem_hd (x : (Q8) × (Q8)) (hx : wordG x.1 = true) : ∃ a t, litemG x = a :: t ∧ innerB a = true := by
  obtain ⟨a, t, e, ha⟩ := (word_inner hx).2
  exact ⟨a, _, by unfold litemG; rw [e]; rfl, ha⟩
theorem lprint_eq {l : LB} (h : lrightG l = true) : lprintG l = 123 :: tailJ litemG l [] := by
  unfold lprintG tailJ; rw [if_pos h]; rfl
theorem lright_words {l : LB} (h : lrightG l = true) : ∀ x ∈ l, wordG x.1 = true := by
  intro x hx
  unfold lrightG at h
  rw [Bool.and_eq_true, Bool.and_eq_true] at h
  have := List.all_eq_true.1 h.1.1 x hx
  unfold lab1 at this
  rw [Bool.and_eq_true, Bool.and_eq_true] at this
  exact this.1.1
theorem lprint_inj {x y : LB} (hx : lrightG x = true) (hy : lrightG y = true) (h : lprintG x = lprintG y) : x = y := by
  rw [lprint_eq hx, lprint_eq hy] at h
  exact (join_inj litemG (fun x => wordG x.1 = true) litem_pf litem_hd x y [] [] (lright_words hx) (lright_words hy) (List.cons.inj h).2).1
theorem cut7 {α : Type} (l : List α) : List.drop 0 (List.take (Int.toNat (if (7) < (((List.length l) : Nat) : Int) then (7) else (((List.length l) : Nat) : Int))) l) = l.take 7 := by
  rw [List.drop_zero]
  split
  · rfl
  · rw [Int.toNat_natCast, List.take_length, List.take_of_length_le (by omega)]
theorem cut7b (n : Nat) : (decide (0 ≤ (if (7) < ((n : Nat) : Int) then (7) else ((n : Nat) : Int))) && decide ((if (7) < ((n : Nat) : Int) then (7) else ((n : Nat) : Int)) ≤ ((n : Nat) : Int))) = true := by
  split <;> simp <;> omega
theorem getD_mid {α : Type} (pre post : List α) (x d : α) : List.getD (pre ++ x :: post) (0 + pre.length) d = x := by simp
theorem set_mid {α : Type} (pre post : List α) (x y : α) : List.set (pre ++ x :: post) (0 + pre.length) y = pre ++ y :: post := by simp
theorem any_congr' {α : Type} {p q : α → Bool} : ∀ l : List α, (∀ x ∈ l, p x = q x) → l.any p = l.any q
  | [], _ => rfl
  | x :: l, h => by rw [List.any_cons, List.any_cons, h x (List.mem_cons_self ..), any_congr' l fun y hy => h y (List.mem_cons_of_mem _ hy)]
theorem word_one (x : Q8) : lrightG [(x, ([120] : Q8))] = wordG x := by
  unfold lrightG lab1 lrise
  simp
theorem sets_loop (m : Nat) (x0 : List (List Int × List Int)) (x1 : SS) (x2 : HS) (x3 x4 : Int) : ∀ (n k : Nat) (b : List LB), k ≤ x0.length → k ≤ 6 → 6 - k < n → b.length ≤ k → ∃ e j, l4_0 m n x0 x1 x2 x3 x4 ((k : Nat) : Int) b = some (e, j, b ++ ((x0.take 6).drop k).map setG) ∧ (e = 0 ∨ e = 1)
  | 0, k, _, _, _, h, _ => by omega
  | n + 1, k, b, h1, h2, h3, h4 => by
    rw [l4_0]
    by_cases hk : k < x0.length
    · rw [if_pos (decide_eq_true (by omega))]
      by_cases h6 : k < 6
      · have e7 : IntKind.wrap .i64 (((k : Nat) : Int) + (1)) = ((k + 1 : Nat) : Int) := by rw [wrap_id (by omega) (by omega)]; rfl
        have hd : (x0.take 6).drop k = x0.getD k (([] : List Int), ([] : List Int)) :: (x0.take 6).drop (k + 1) := by
          rw [drop_getD (x0.take 6) k (([] : List Int), ([] : List Int)) (by rw [List.length_take]; omega)]
          congr 1
          simp [List.getD, List.getElem?_take, h6]
        obtain ⟨e, j, h, he⟩ := sets_loop m x0 x1 x2 x3 x4 n (k + 1) (b ++ [setG (x0.getD k (([] : List Int), ([] : List Int)))]) (by omega) (by omega) (by omega) (by rw [List.length_append, List.length_singleton]; omega)
        refine ⟨e, j, ?_, he⟩
        rw [if_pos (decide_eq_true (by omega)), if_pos (decide_eq_true (by omega)), if_pos (decide_eq_true (by omega)), e7, show Int.toNat ((k : Nat) : Int) = k from rfl, h, hd, List.map_cons, List.append_assoc]
        rfl
      · rw [if_neg (by rw [decide_eq_true_eq]; omega), List.drop_eq_nil_of_le (by rw [List.length_take]; omega), List.map_nil, List.append_nil]
        exact ⟨0, _, rfl, .inl rfl⟩
    · rw [if_neg (by rw [decide_eq_true_eq]; omega), List.drop_eq_nil_of_le (by rw [List.length_take]; omega), List.map_nil, List.append_nil]
      exact ⟨1, _, rfl, .inr rfl⟩
def cutS (s : (List MT) × Int × Int) : (List MT) × Int × Int := (s.1.take 7, s.2)
def cutH (h : (List MT) × (List MT) × (Q7)) : (List MT) × (List MT) × (Q7) := (h.1.take 7, h.2.1.take 7, h.2.2.take 7)
theorem rp_take {l : List MT} (h : ∀ z ∈ l, z.1.length ≤ 9223372036854775807) : rightPre (l.take 7) = true :=
  decide_eq_true ⟨by rw [List.length_take]; omega, fun z hz => h z (List.mem_of_mem_take hz)⟩
theorem cs_loop (m : Nat) (x3 x4 : Int) (all : List LB) (hs : HS) (N : Nat) (hN : N ≤ 1000) : ∀ (n : Nat) (pre post : SS) (acc : Bool), post.length < n → pre.length + post.length = N → (∀ s ∈ post, ∀ z ∈ s.1, z.1.length ≤ 9223372036854775807) → ∃ j, l4_1 m n x3 x4 acc ((N : Nat) : Int) ((pre.length : Nat) : Int) all (pre ++ post) hs = some (0, (acc && (post.map cutS).all sRight), j, pre ++ post.map cutS)
  | 0, _, _, _, h, _, _ => by omega
  | n + 1, pre, [], acc, h, hb, _ => by
    rw [l4_1, if_neg (by rw [decide_eq_true_eq, List.length_nil] at *; omega)]
    exact ⟨_, by rw [List.map_nil, List.all_nil, Bool.and_true]⟩
  | n + 1, pre, x :: post, acc, h, hb, hz => by
    rw [List.length_cons] at h hb
    have e1 : decide (((pre.length : Nat) : Int) < ((N : Nat) : Int)) = true := decide_eq_true (by omega)
    have e2 : decide ((0 : Int) ≤ ((pre.length : Nat) : Int)) = true := decide_eq_true (by omega)
    have e3 : ∀ y, decide (((pre.length : Nat) : Int) < (((List.length (pre ++ y :: post)) : Nat) : Int)) = true := fun y => decide_eq_true (by simp; omega)
    have e4 : ∀ y, decide ((0 + pre.length) < (List.length (pre ++ y :: post))) = true := fun y => decide_eq_true (by simp)
    have e7 : IntKind.wrap .i64 (((pre.length : Nat) : Int) + (1)) = ((pre.length + 1 : Nat) : Int) := by rw [wrap_id (by omega) (by omega)]; rfl
    have go := fun acc => cs_loop m x3 x4 all hs N hN n (pre ++ [cutS x]) post acc (by omega) (by rw [List.length_append, List.length_singleton]; omega) (fun s hs' => hz s (List.mem_cons_of_mem _ hs'))
    simp only [List.length_append, List.length_cons, List.length_nil, Nat.zero_add, List.append_assoc, List.cons_append, List.nil_append] at go
    have rp := rp_take (hz x (List.mem_cons_self ..))
    have hc : (x.1.take 7, x.2) = cutS x := rfl
    have hs' : sRight (cutS x) = (rightG (x.1.take 7) && decide (x.2.1 ≤ x.2.2)) := rfl
    rw [l4_1, show Int.toNat ((pre.length : Nat) : Int) = pre.length from rfl, getD_mid, cut7, set_mid, getD_mid, e7, hc, if_pos e1, if_pos e2, if_pos (e3 _), if_pos (e4 _), if_pos (cut7b _), List.map_cons, List.all_cons, hs']
    cases acc with
    | false =>
      obtain ⟨j, hj⟩ := go false
      exact ⟨j, by rw [if_neg (by decide), hj, Bool.false_and, Bool.false_and]⟩
    | true =>
      rw [if_pos rfl, if_pos (e4 _)]
      by_cases c1 : x.2.1 ≤ x.2.2
      · obtain ⟨j, hj⟩ := go (rightG (x.1.take 7))
        refine ⟨j, ?_⟩
        rw [if_pos (show decide ((cutS x).2.1 ≤ (cutS x).2.2) = true from decide_eq_true c1), if_pos (show rightPre (cutS x).1 = true from rp), decide_eq_true c1, Bool.and_true, Bool.true_and]
        exact hj
      · obtain ⟨j, hj⟩ := go false
        exact ⟨j, by rw [if_neg (by rw [decide_eq_true_eq]; exact c1), hj, decide_eq_false c1, Bool.and_false, Bool.false_and, Bool.and_false]⟩
theorem names_loop (m : Nat) (x3 x4 a b : Int) (all : List LB) (ss : SS) (hs : HS) (ns : Q7) (hb : ns.length ≤ 1000) (hz : ∀ z ∈ ns, z.length ≤ 9223372036854775807) : ∀ (n k : Nat) (acc : Bool), k ≤ ns.length → ns.length - k < n → ∃ j, l4_3 m n x3 x4 a b all ss acc ns ((ns.length : Nat) : Int) ((k : Nat) : Int) hs = some (0, (acc && (ns.drop k).all wordG), j)
  | 0, k, _, _, h => by omega
  | n + 1, k, acc, h1, h2 => by
    rw [l4_3]
    by_cases hk : k < ns.length
    · have e1 : decide (((k : Nat) : Int) < (((List.length ns) : Nat) : Int)) = true := decide_eq_true (by omega)
      have e2 : decide ((0 : Int) ≤ ((k : Nat) : Int)) = true := decide_eq_true (by omega)
      have e7 : IntKind.wrap .i64 (((k : Nat) : Int) + (1)) = ((k + 1 : Nat) : Int) := by rw [wrap_id (by omega) (by omega)]; rfl
      have go := fun acc => names_loop m x3 x4 a b all ss hs ns hb hz n (k + 1) acc (by omega) (by omega)
      have pz : lrightPre [((List.getD ns k ([] : Q8)), ([120] : Q8))] = true := decide_eq_true ⟨by simp, fun z hz' => by rw [List.mem_singleton] at hz'; rw [hz']; exact hz _ (getD_mem ns k _ hk)⟩
      rw [drop_getD ns k ([] : Q8) hk, List.all_cons, e7, show Int.toNat ((k : Nat) : Int) = k from rfl, if_pos e1, if_pos e2, if_pos e1, word_one]
      cases acc with
      | false =>
        obtain ⟨j, hj⟩ := go false
        exact ⟨j, by rw [if_neg (by decide), hj, Bool.false_and, Bool.false_and]⟩
      | true =>
        obtain ⟨j, hj⟩ := go (wordG (List.getD ns k ([] : Q8)))
        exact ⟨j, by rw [if_pos rfl, if_pos pz, hj, Bool.true_and]⟩
    · have e1 : decide (((k : Nat) : Int) < (((List.length ns) : Nat) : Int)) = false := decide_eq_false (by omega)
      rw [e1, if_neg (by decide), List.drop_eq_nil_of_le (by omega)]
      exact ⟨_, by rw [List.all_nil, Bool.and_true]⟩
theorem ch_loop (m : Nat) (x3 x4 : Int) (all : List LB) (ss : SS) (N : Nat) (hN : N ≤ 1000) : ∀ (n : Nat) (pre post : HS) (acc : Bool), post.length < n → pre.length + post.length = N → (∀ h ∈ post, (∀ z ∈ h.1, z.1.length ≤ 9223372036854775807) ∧ (∀ z ∈ h.2.1, z.1.length ≤ 9223372036854775807) ∧ ∀ z ∈ h.2.2, z.length ≤ 9223372036854775807) → ∃ j, l4_2 m n x3 x4 acc ((N : Nat) : Int) ((pre.length : Nat) : Int) all ss (pre ++ post) = some (0, (acc && (post.map cutH).all hRight), j, pre ++ post.map cutH)
  | 0, _, _, _, h, _, _ => by omega
  | n + 1, pre, [], acc, h, hb, _ => by
    rw [l4_2, if_neg (by rw [decide_eq_true_eq, List.length_nil] at *; omega)]
    exact ⟨_, by rw [List.map_nil, List.all_nil, Bool.and_true]⟩
  | n + 1, pre, x :: post, acc, h, hb, hz => by
    rw [List.length_cons] at h hb
    obtain ⟨z1, z2, z3⟩ := hz x (List.mem_cons_self ..)
    have e1 : decide (((pre.length : Nat) : Int) < ((N : Nat) : Int)) = true := decide_eq_true (by omega)
    have e2 : decide ((0 : Int) ≤ ((pre.length : Nat) : Int)) = true := decide_eq_true (by omega)
    have e3 : ∀ y, decide (((pre.length : Nat) : Int) < (((List.length (pre ++ y :: post)) : Nat) : Int)) = true := fun y => decide_eq_true (by simp; omega)
    have e4 : ∀ y, decide ((0 + pre.length) < (List.length (pre ++ y :: post))) = true := fun y => decide_eq_true (by simp)
    have tn : Int.toNat ((pre.length : Nat) : Int) = pre.length := rfl
    have K12 : l4_2_k12 ((pre.length : Nat) : Int) = ((pre.length + 1 : Nat) : Int) := by
      unfold l4_2_k12; rw [wrap_id (by omega) (by omega)]; rfl
    have K5 : l4_2_k5 ((pre.length : Nat) : Int) (pre ++ x :: post) = x := by unfold l4_2_k5; rw [tn, getD_mid]
    have K1 : l4_2_k1 ((pre.length : Nat) : Int) (pre ++ x :: post) = pre ++ (x.1.take 7, x.2) :: post := by
      unfold l4_2_k1; rw [tn, getD_mid, set_mid, cut7]
    have K2 : l4_2_k2 ((pre.length : Nat) : Int) (pre ++ x :: post) = pre ++ (x.1.take 7, (x.2.1.take 7, x.2.2)) :: post := by
      unfold l4_2_k2; rw [K1, tn, getD_mid, getD_mid, set_mid, cut7]
    have K3 : l4_2_k3 ((pre.length : Nat) : Int) (pre ++ x :: post) = pre ++ cutH x :: post := by
      unfold l4_2_k3; rw [K2, tn, getD_mid, getD_mid, set_mid, cut7]; rfl
    have K4 : l4_2_k4 ((pre.length : Nat) : Int) (pre ++ x :: post) = cutH x := by unfold l4_2_k4; rw [K3, tn, getD_mid]
    have K6 : l4_2_k6 ((pre.length : Nat) : Int) (pre ++ x :: post) = (((List.length (cutH x).2.2) : Nat) : Int) := by unfold l4_2_k6; rw [K4]
    have K8 : l4_2_k8 ((pre.length : Nat) : Int) (pre ++ x :: post) = (((List.length x.2.1) : Nat) : Int) := by unfold l4_2_k8; rw [K5]
    have K9 : l4_2_k9 ((pre.length : Nat) : Int) (pre ++ x :: post) = (((List.length x.2.2) : Nat) : Int) := by unfold l4_2_k9; rw [K5]
    have K10 : l4_2_k10 ((pre.length : Nat) : Int) (pre ++ x :: post) = (((List.length x.1) : Nat) : Int) := by unfold l4_2_k10; rw [K5]
    have K11 : l4_2_k11 ((pre.length : Nat) : Int) (pre ++ x :: post) = List.length (pre ++ cutH x :: post) := by unfold l4_2_k11; rw [K3]
    have c3 : ∀ z ∈ (cutH x).2.2, z.length ≤ 9223372036854775807 := fun z hz' => z3 z (List.mem_of_mem_take hz')
    have c4 : (cutH x).2.2.length ≤ 7 := by show (x.2.2.take 7).length ≤ 7; rw [List.length_take]; omega
    have L := fun acc => names_loop m x3 x4 ((N : Nat) : Int) ((pre.length : Nat) : Int) all ss (pre ++ cutH x :: post) (cutH x).2.2 (by omega) c3 (m + 24) 0 acc (by omega) (by omega)
    simp only [Int.natCast_zero, List.drop_zero] at L
    obtain ⟨j0, L0⟩ := L false
    obtain ⟨j1, L1⟩ := L (decide ((((List.length (cutH x).2.2) : Nat) : Int) ≤ 6))
    rw [Bool.false_and] at L0
    have K7 : l4_2_k7 x3 x4 ((N : Nat) : Int) ((pre.length : Nat) : Int) all ss (pre ++ x :: post) m = (0, false, j0) := by
      unfold l4_2_k7 l4_3R; rw [K4, K6, K3, L0]; rfl
    have go := fun acc => ch_loop m x3 x4 all ss N hN n (pre ++ [cutH x]) post acc (by omega) (by rw [List.length_append, List.length_singleton]; omega) (fun s hs' => hz s (List.mem_cons_of_mem _ hs'))
    simp only [List.length_append, List.length_cons, List.length_nil, Nat.zero_add, List.append_assoc, List.cons_append, List.nil_append] at go
    have p1 : rightPre (cutH x).1 = true := rp_take z1
    have p2 : rightPre (cutH x).2.1 = true := rp_take z2
    have hR : hRight (cutH x) = (rightG (cutH x).1 && (rightG (cutH x).2.1 && (decide ((cutH x).2.2.length ≤ 6) && (cutH x).2.2.all wordG))) := rfl
    have q2 : decide ((((List.length (cutH x).2.2) : Nat) : Int) ≤ 6) = decide ((cutH x).2.2.length ≤ 6) := by rw [decide_eq_decide]; omega
    rw [l4_2, K7, K12, K10, K8, K9, K11, K6, K4, K3, K2, K1, tn, if_pos e1, if_pos e2, if_pos (e3 _), if_pos (e4 _), if_pos (cut7b _), if_pos (cut7b _), if_pos (cut7b _), if_pos (e4 _), if_pos (e4 _), List.map_cons, List.all_cons, hR]
    have no : (if (Option.isSome (l4_3 m (m + 24) x3 x4 ((N : Nat) : Int) ((pre.length : Nat) : Int) all ss false ((cutH x).2.2) (((List.length (cutH x).2.2) : Nat) : Int) 0 (pre ++ cutH x :: post))) = true then l4_2 m n x3 x4 ((0, false, j0) : Nat × Bool × Int).2.1 ((N : Nat) : Int) ((pre.length + 1 : Nat) : Int) all ss (pre ++ cutH x :: post) else none) = l4_2 m n x3 x4 false ((N : Nat) : Int) ((pre.length + 1 : Nat) : Int) all ss (pre ++ cutH x :: post) := by
      rw [L0]; rfl
    obtain ⟨jf, hf⟩ := go false
    rw [Bool.false_and] at hf
    cases acc with
    | false => exact ⟨jf, by rw [if_neg (by decide), if_pos (e4 _), no, hf, Bool.false_and]⟩
    | true =>
      rw [if_pos rfl, if_pos (e4 _), if_pos p1, Bool.true_and]
      cases rightG (cutH x).1 with
      | false => exact ⟨jf, by rw [if_neg (by decide), no, hf, Bool.false_and, Bool.false_and]⟩
      | true =>
        rw [if_pos rfl, if_pos p2]
        cases rightG (cutH x).2.1 with
        | false => exact ⟨jf, by rw [if_neg (by decide), no, hf, Bool.false_and, Bool.and_false, Bool.false_and]⟩
        | true =>
          obtain ⟨j, hj⟩ := go (decide ((((List.length (cutH x).2.2) : Nat) : Int) ≤ 6) && (cutH x).2.2.all wordG)
          refine ⟨j, ?_⟩
          unfold l4_3R
          rw [if_pos rfl, L1]
          rw [q2] at *
          rw [Bool.true_and, Bool.true_and]
          exact hj
theorem by_eq {all : List LB} {own : LB} (hall : ∀ x ∈ all, lrightG x = true) (hown : lrightG own = true) (h : (List MT) × (List MT) × (Q7)) : mutedBy all own h = inhBy all own h := by
  unfold mutedBy inhBy
  congr 1
  refine any_congr' all fun o ho => ?_
  unfold mhit hitG
  congr 2
  rw [Bool.eq_iff_iff, beq_iff_eq, beq_iff_eq]
  exact ⟨fun e => lprint_inj (hall o ho) hown e, fun e => by rw [e]⟩
theorem want_loop (m : Nat) (x3 x4 : Int) (acc : Bool) (all : List LB) (ss : SS) (hs : HS) (hall : ∀ x ∈ all, lrightG x = true) (ha : all.length ≤ 6) (h1 : ss.length ≤ 4) (h2 : ∀ s ∈ ss, s.1.length ≤ 7) (h3 : hs.length ≤ 4) (h4 : ∀ h ∈ hs, h.1.length ≤ 7 ∧ h.2.1.length ≤ 7 ∧ h.2.2.length ≤ 7) : ∀ (n k : Nat) (b : List LB), k ≤ all.length → all.length - k < n → b.length ≤ k → ∃ j, l4_4 m n x3 x4 acc ((all.length : Nat) : Int) ((k : Nat) : Int) all ss hs b = some (0, j, b ++ (all.drop k).filter (quietG all x3 ss hs))
  | 0, k, _, _, h, _ => by omega
  | n + 1, k, b, g1, g2, g3 => by
    rw [l4_4]
    by_cases hk : k < all.length
    · have e1 : decide (((k : Nat) : Int) < (((List.length all) : Nat) : Int)) = true := decide_eq_true (by omega)
      have e2 : decide ((0 : Int) ≤ ((k : Nat) : Int)) = true := decide_eq_true (by omega)
      have e3 : decide (0 + k < List.length all) = true := decide_eq_true (by omega)
      have e7 : IntKind.wrap .i64 (((k : Nat) : Int) + (1)) = ((k + 1 : Nat) : Int) := by rw [wrap_id (by omega) (by omega)]; rfl
      have hx := hall _ (getD_mem all k ([] : LB) hk)
      have len : ∀ x ∈ all, x.length ≤ 6 := fun x h => (lright_all (hall x h)).1
      have pre : ∀ x ∈ all, lrightPre x = true := fun x h => set4_pre (hall x h)
      have lx : (all.getD k ([] : LB)).length ≤ 6 := len _ (getD_mem all k ([] : LB) hk)
      have go := fun b hb => want_loop m x3 x4 acc all ss hs hall ha h1 h2 h3 h4 n (k + 1) b (by omega) (by omega) hb
      have s1 : silPre (all.getD k ([] : LB)) ss = true := decide_eq_true ⟨by omega, by omega, fun s h => by have := h2 s h; omega⟩
      have i1 : inhPre all hs = true := decide_eq_true ⟨by omega, fun x h => by have := len x h; omega, by omega, fun h hh => by have := h4 h hh; omega⟩
      have mp : ∀ (ss' : SS) (hs' : HS), ss'.length ≤ 4 → (∀ s ∈ ss', s.1.length ≤ 7) → hs'.length ≤ 4 → (∀ h ∈ hs', h.1.length ≤ 7 ∧ h.2.1.length ≤ 7 ∧ h.2.2.length ≤ 7) → mutedPre all ((k : Nat) : Int) ss' hs' = true := fun ss' hs' a b c d => decide_eq_true ⟨by omega, by omega, by omega, pre, by omega, fun s h => by have := b s h; omega, by omega, fun h hh => by have := d h hh; omega⟩
      have m1 := mp ss [] h1 h2 (by simp) (fun h hh => by cases hh)
      have m2 := mp [] hs (by simp) (fun h hh => by cases hh) h3 h4
      have m3 := mp ss hs h1 h2 h3 h4
      have ab : hs.any (mutedBy all (all.getD k ([] : LB))) = hs.any (inhBy all (all.getD k ([] : LB))) := any_congr' hs fun h _ => by_eq hall hx h
      have M1 : mutedG all ((k : Nat) : Int) x3 ss [] = silG (all.getD k ([] : LB)) x3 ss := by
        show (silG (all.getD k ([] : LB)) x3 ss || false) = _
        rw [Bool.or_false]
      have M2 : mutedG all ((k : Nat) : Int) x3 [] hs = hs.any (inhBy all (all.getD k ([] : LB))) := by
        show (false || hs.any (mutedBy all (all.getD k ([] : LB)))) = _
        rw [Bool.false_or, ab]
      have M3 : mutedG all ((k : Nat) : Int) x3 ss hs = (silG (all.getD k ([] : LB)) x3 ss || hs.any (inhBy all (all.getD k ([] : LB)))) := by
        show (silG (all.getD k ([] : LB)) x3 ss || hs.any (mutedBy all (all.getD k ([] : LB)))) = _
        rw [ab]
      have I1 : inhG all ((k : Nat) : Int) hs = hs.any (inhBy all (all.getD k ([] : LB))) := by
        unfold inhG
        rw [if_neg (by omega), if_neg (by omega)]; rfl
      have qq : quietG all x3 ss hs (all.getD k ([] : LB)) = !(silG (all.getD k ([] : LB)) x3 ss || hs.any (inhBy all (all.getD k ([] : LB)))) := by
        unfold quietG; rw [Bool.not_or]
      rw [drop_getD all k ([] : LB) hk, List.filter_cons, qq, show Int.toNat ((k : Nat) : Int) = k from rfl, Nat.zero_add, e7]
      rw [Nat.zero_add] at e3
      rw [if_pos e1, if_pos e2, if_pos e1, if_pos e3]
      simp only [List.drop_zero, List.take_length]
      rw [if_pos s1, if_pos m1, M1, if_pos (beq_self_eq_true _), if_pos i1, if_pos m2, I1, M2, if_pos (beq_self_eq_true _), if_pos m3, M3]
      cases (silG (all.getD k ([] : LB)) x3 ss || hs.any (inhBy all (all.getD k ([] : LB)))) with
      | true =>
        obtain ⟨j, hj⟩ := go b (by omega)
        exact ⟨j, by rw [if_pos rfl, hj]; rfl⟩
      | false =>
        obtain ⟨j, hj⟩ := go (b ++ [all.getD k ([] : LB)]) (by rw [List.length_append, List.length_singleton]; omega)
        exact ⟨j, by rw [if_neg (by decide), if_pos (decide_eq_true (by omega)), hj, List.append_assoc]; rfl⟩
    · have e1 : decide (((k : Nat) : Int) < (((List.length all) : Nat) : Int)) = false := decide_eq_false (by omega)
      rw [e1, if_neg (by decide), List.drop_eq_nil_of_le (by omega)]
      exact ⟨_, by rw [List.filter_nil, List.append_nil]⟩
theorem same_loop (m : Nat) (a : List LB) (ha : a.length ≤ 6) (hl : ∀ x ∈ a, x.length ≤ 6) : ∀ (n k : Nat), k ≤ a.length → a.length - k < n → ∃ j, l4_5 m n a ((a.length : Nat) : Int) ((k : Nat) : Int) a = some (0, j)
  | 0, k, _, h => by omega
  | n + 1, k, g1, g2 => by
    rw [l4_5]
    by_cases hk : k < a.length
    · have e1 : decide (((k : Nat) : Int) < (((List.length a) : Nat) : Int)) = true := decide_eq_true (by omega)
      have e2 : decide ((0 : Int) ≤ ((k : Nat) : Int)) = true := decide_eq_true (by omega)
      have e3 : decide (0 + k < List.length a) = true := decide_eq_true (by omega)
      have e7 : IntKind.wrap .i64 (((k : Nat) : Int) + (1)) = ((k + 1 : Nat) : Int) := by rw [wrap_id (by omega) (by omega)]; rfl
      have e4 : decide (List.length (List.getD a k ([] : LB)) < 4611686018427387904) = true := decide_eq_true (by have := hl _ (getD_mem a k ([] : LB) hk); omega)
      obtain ⟨j, hj⟩ := same_loop m a ha hl n (k + 1) (by omega) (by omega)
      rw [Nat.zero_add] at e3
      refine ⟨j, ?_⟩
      rw [show Int.toNat ((k : Nat) : Int) = k from rfl, Nat.zero_add, e7, if_pos e1, if_pos e2, if_pos e1, if_pos e1, if_pos e3, if_pos e4, if_pos (beq_self_eq_true _)]
      exact hj
    · have e1 : decide (((k : Nat) : Int) < (((List.length a) : Nat) : Int)) = false := decide_eq_false (by omega)
      rw [e1, if_neg (by decide)]
      exact ⟨_, rfl⟩
theorem mtells_pure (x0 : List (List Int × List Int)) (x1 : SS) (x2 : HS) (x3 x4 : Int) (h1 : ∀ s ∈ x1, ∀ z ∈ s.1, z.1.length ≤ 9223372036854775807) (h2 : ∀ h ∈ x2, (∀ z ∈ h.1, z.1.length ≤ 9223372036854775807) ∧ (∀ z ∈ h.2.1, z.1.length ≤ 9223372036854775807) ∧ ∀ z ∈ h.2.2, z.length ≤ 9223372036854775807) : ∃ m q, mtells m x0 x1 x2 x3 x4 = some q := by
  refine ⟨100, (), ?_⟩
  have cut4 : ∀ {α : Type} (l : List α), List.drop 0 (List.take (Int.toNat (if (4) < (((List.length l) : Nat) : Int) then (4) else (((List.length l) : Nat) : Int))) l) = l.take 4 := by
    intro α l
    rw [List.drop_zero]
    split
    · rfl
    · rw [Int.toNat_natCast, List.take_length, List.take_of_length_le (by omega)]
  have cut4b : ∀ n : Nat, (decide (0 ≤ (if (4) < ((n : Nat) : Int) then (4) else ((n : Nat) : Int))) && decide ((if (4) < ((n : Nat) : Int) then (4) else ((n : Nat) : Int)) ≤ ((n : Nat) : Int))) = true := by
    intro n
    split <;> simp <;> omega
  have hS : (x1.take 4).length ≤ 4 := by rw [List.length_take]; omega
  have hH : (x2.take 4).length ≤ 4 := by rw [List.length_take]; omega
  have gS : ∀ s ∈ x1.take 4, ∀ z ∈ s.1, z.1.length ≤ 9223372036854775807 := fun s h => h1 s (List.mem_of_mem_take h)
  have gH : ∀ h ∈ x2.take 4, (∀ z ∈ h.1, z.1.length ≤ 9223372036854775807) ∧ (∀ z ∈ h.2.1, z.1.length ≤ 9223372036854775807) ∧ ∀ z ∈ h.2.2, z.length ≤ 9223372036854775807 := fun h hh => h2 h (List.mem_of_mem_take hh)
  have hR : ∀ k : List Int × List Int, lrightG (setG k) = true := by
    intro k
    obtain ⟨h0, h1, h2, v0, v1, v2, hl, b0, b1, b2⟩ := setG_of k
    rw [hl]
    exact set4_right h0 h1 h2 false (v3 := [120]) (val_len b0) (val_len b1) (val_len b2) ⟨by decide, by decide⟩
  obtain ⟨e, j0, hl0, he⟩ := sets_loop 100 x0 x1 x2 x3 x4 (100 + 24) 0 [] (by omega) (by omega) (by omega) (by simp)
  rw [Int.natCast_zero, List.drop_zero, List.nil_append] at hl0
  have hall : ∀ x ∈ (x0.take 6).map setG, lrightG x = true := fun x hx => by
    obtain ⟨k, _, rfl⟩ := List.mem_map.1 hx
    exact hR k
  have hal : ((x0.take 6).map setG).length ≤ 6 := by rw [List.length_map, List.length_take]; omega
  have K7 : mtells_k7 x1 = x1.take 4 := by unfold mtells_k7; rw [cut4]
  have K6 : mtells_k6 x2 = x2.take 4 := by unfold mtells_k6; rw [cut4]
  have K20 : mtells_k20 x1 = (x1.take 4).length := by unfold mtells_k20; rw [K7]
  have K24 : mtells_k24 x2 = (x2.take 4).length := by unfold mtells_k24; rw [K6]
  have K19 : mtells_k19 x2 = (((x2.take 4).length : Nat) : Int) := by unfold mtells_k19; rw [K6]
  have K25 : (decide (0 ≤ (mtells_k25 x1)) && decide ((mtells_k25 x1) ≤ (((List.length x1) : Nat) : Int))) = true := by unfold mtells_k25; exact cut4b _
  have K26 : (decide (0 ≤ (mtells_k26 x2)) && decide ((mtells_k26 x2) ≤ (((List.length x2) : Nat) : Int))) = true := by unfold mtells_k26; exact cut4b _
  obtain ⟨all, hA⟩ : ∃ all, (x0.take 6).map setG = all := ⟨_, rfl⟩
  rw [hA] at hl0 hall hal
  have K4 : mtells_k4 x0 x1 x2 x3 x4 100 = (e, j0, all) := by unfold mtells_k4 l4_0R; rw [hl0]; rfl
  obtain ⟨j1, hl1⟩ := cs_loop 100 x3 x4 all (x2.take 4) (x1.take 4).length (by omega) (100 + 24) [] (x1.take 4) true (by omega) (by simp) gS
  rw [List.length_nil, Int.natCast_zero, List.nil_append, List.nil_append, Bool.true_and] at hl1
  obtain ⟨S, hSe⟩ : ∃ S, (x1.take 4).map cutS = S := ⟨_, rfl⟩
  have Sl : S.length ≤ 4 := by rw [← hSe, List.length_map]; exact hS
  have S7 : ∀ s ∈ S, s.1.length ≤ 7 ∧ rightPre s.1 = true := by
    intro s hs
    rw [← hSe] at hs
    obtain ⟨q, hq, rfl⟩ := List.mem_map.1 hs
    exact ⟨by show (q.1.take 7).length ≤ 7; rw [List.length_take]; omega, rp_take (gS q hq)⟩
  rw [hSe] at hl1
  have K1 : mtells_k1 x0 x1 x2 x3 x4 100 = (0, S.all sRight, j1, S) := by
    unfold mtells_k1 l4_1R l4_0R; rw [cut4, cut4, Nat.zero_add, hl0]
    show Option.getD (l4_1 100 (100 + 24) x3 x4 true (((x1.take 4).length : Nat) : Int) 0 all (x1.take 4) (x2.take 4)) _ = _
    rw [hl1]; rfl
  obtain ⟨j2, hl2⟩ := ch_loop 100 x3 x4 all S (x2.take 4).length (by omega) (100 + 24) [] (x2.take 4) (S.all sRight) (by omega) (by simp) gH
  rw [List.length_nil, Int.natCast_zero, List.nil_append, List.nil_append] at hl2
  obtain ⟨T, hTe⟩ : ∃ T, (x2.take 4).map cutH = T := ⟨_, rfl⟩
  have Tl : T.length ≤ 4 := by rw [← hTe, List.length_map]; exact hH
  have T7 : ∀ h ∈ T, (h.1.length ≤ 7 ∧ h.2.1.length ≤ 7 ∧ h.2.2.length ≤ 7) ∧ rightPre h.1 = true ∧ rightPre h.2.1 = true ∧ badPre h.2.2 = true := by
    intro h hh
    rw [← hTe] at hh
    obtain ⟨q, hq, rfl⟩ := List.mem_map.1 hh
    obtain ⟨a, b, c⟩ := gH q hq
    have t1 : (q.1.take 7).length ≤ 7 := by rw [List.length_take]; omega
    have t2 : (q.2.1.take 7).length ≤ 7 := by rw [List.length_take]; omega
    have t3 : (q.2.2.take 7).length ≤ 7 := by rw [List.length_take]; omega
    exact ⟨⟨t1, t2, t3⟩, rp_take a, rp_take b, decide_eq_true ⟨by show (q.2.2.take 7).length ≤ 1000000; omega, fun z hz => c z (List.mem_of_mem_take hz)⟩⟩
  rw [hTe] at hl2
  have K2 : mtells_k2 x0 x1 x2 x3 x4 100 = (0, (S.all sRight && T.all hRight), j2, T) := by
    unfold mtells_k2 l4_2R l4_0R; rw [K1, cut4, hl0]
    show Option.getD (l4_2 100 (100 + 24) x3 x4 (S.all sRight) (((x2.take 4).length : Nat) : Int) 0 all S (x2.take 4)) _ = _
    rw [hl2]; rfl
  obtain ⟨j4, hl4⟩ := want_loop 100 x3 x4 (S.all sRight && T.all hRight) all S T hall hal Sl (fun s h => (S7 s h).1) Tl (fun h hh => (T7 h hh).1) (100 + 24) 0 [] (by omega) (by omega) (by simp)
  rw [Int.natCast_zero, List.drop_zero, List.nil_append] at hl4
  have hw : all.filter (quietG all x3 S T) = heardG all x3 S T := rfl
  rw [hw] at hl4
  have K5 : mtells_k5 x0 x1 x2 x3 x4 100 = (0, j4, heardG all x3 S T) := by
    unfold mtells_k5 l4_4R; rw [K2, K1, K4]
    show Option.getD (l4_4 100 (100 + 24) x3 x4 (S.all sRight && T.all hRight) ((all.length : Nat) : Int) 0 all S T []) _ = _
    rw [hl4]; rfl
  have K3 : mtells_k3 x0 x1 x2 x3 x4 100 = heardG all x3 S T := by
    unfold mtells_k3 l4_0R; rw [K1, K2, hl0]
    simp only [Option.getD_some, List.drop_zero, List.take_length]
  have hfl : (heardG all x3 S T).length ≤ 6 := by have : (heardG all x3 S T).length ≤ all.length := List.length_filter_le ..; omega
  have hfx : ∀ x ∈ heardG all x3 S T, x.length ≤ 6 := fun x hx => (lright_all (hall x (List.mem_filter.1 hx).1)).1
  obtain ⟨j5, hl5⟩ := same_loop 100 (heardG all x3 S T) hfl hfx (100 + 24) 0 (by omega) (by omega)
  rw [Int.natCast_zero] at hl5
  have K8 : mtells_k8 x0 x1 x2 x3 x4 100 = (((heardG all x3 S T).length : Nat) : Int) := by unfold mtells_k8; rw [K3]
  have K21 : mtells_k21 x0 x1 x2 x3 x4 100 = some (0, j5) := by unfold mtells_k21; rw [K8, K3, K5]; exact hl5
  have K9 : mtells_k9 x0 x1 x2 x3 x4 100 = T.length := by unfold mtells_k9; rw [K2]
  have K12 : mtells_k12 x0 x1 x2 x3 x4 100 = all.length := by unfold mtells_k12; rw [K4]
  have K14 : mtells_k14 x0 x1 x2 x3 x4 100 = S.length := by unfold mtells_k14; rw [K1]
  have K16 : mtells_k16 x0 x1 x2 x3 x4 100 = ((all.length : Nat) : Int) := by unfold mtells_k16; rw [K4]
  have K17 : mtells_k17 x0 x1 x2 x3 x4 100 = T := by unfold mtells_k17; rw [K9, K2, List.drop_zero, List.take_length]
  have K18 : mtells_k18 x0 x1 x2 x3 x4 100 = all := by unfold mtells_k18; rw [K12, K4, List.drop_zero, List.take_length]
  have K22 : mtells_k22 x0 x1 x2 x3 x4 100 = S := by unfold mtells_k22; rw [K14, K1, List.drop_zero, List.take_length]
  have K27 : mtells_k27 x0 x1 x2 x3 x4 100 = inhG all x4 T := by unfold mtells_k27; rw [K18, K17]
  have len : ∀ x ∈ all, x.length ≤ 6 := fun x h => (lright_all (hall x h)).1
  have iP : inhPre all T = true := decide_eq_true ⟨by omega, fun x h => by have := len x h; omega, by omega, fun h hh => by have := (T7 h hh).1; omega⟩
  have hP : heardPre all S T = true := by
    unfold heardPre
    rw [iP, Bool.and_true]
    exact decide_eq_true ⟨by omega, fun s h => by have := (S7 s h).1; omega⟩
  have mP : mrightPre S T = true := decide_eq_true ⟨by omega, by omega, fun s h => (S7 s h).2, fun h hh => (T7 h hh).2⟩
  have mE : (mrightG S T == (S.all sRight && T.all hRight)) = true := beq_self_eq_true _
  have t1 : decide (((0 + (x1.take 4).length) * 40) ≤ 70368744177664) = true := decide_eq_true (by omega)
  have t2 : decide (((0 + (x2.take 4).length) * 72) ≤ 70368744177664) = true := decide_eq_true (by omega)
  have s0 : Option.isSome (l4_0 100 (100 + 24) x0 x1 x2 x3 x4 0 ([] : List LB)) = true := by rw [hl0]; rfl
  have s1 : Option.isSome (l4_1 100 (100 + 24) x3 x4 true (((0 + (x1.take 4).length : Nat)) : Int) 0 all (x1.take 4) (x2.take 4)) = true := by rw [Nat.zero_add, hl1]; rfl
  have s2 : Option.isSome (l4_2 100 (100 + 24) x3 x4 (S.all sRight) (((x2.take 4).length : Nat) : Int) 0 all S (x2.take 4)) = true := by rw [hl2]; rfl
  have s4 : Option.isSome (l4_4 100 (100 + 24) x3 x4 (S.all sRight && T.all hRight) ((all.length : Nat) : Int) 0 all S T ([] : List LB)) = true := by rw [hl4]; rfl
  have ne : ((((heardG all x3 S T).length : Nat) : Int) != (((heardG all x3 S T).length : Nat) : Int)) = false := by simp
  have fin : (if decide (x4 < 0) = true then (if inhPre all T = true then (if inhG all x4 T = true then (none : Option Unit) else (if Option.isSome (some ((0, j5) : Nat × Int)) = true then some () else none)) else none) else
      (if decide (x4 ≥ ((all.length : Nat) : Int)) = true then (if inhPre all T = true then (if inhG all x4 T = true then none else (if Option.isSome (some ((0, j5) : Nat × Int)) = true then some () else none)) else none) else
        (if Option.isSome (some ((0, j5) : Nat × Int)) = true then some () else none))) = some () := by
    rw [if_pos iP]
    unfold inhG
    by_cases a : x4 < 0
    · rw [if_pos (decide_eq_true a), if_pos a, if_neg (by decide)]; rfl
    · rw [if_neg (by rw [decide_eq_true_eq]; exact a), if_neg a]
      by_cases b : x4 ≥ ((all.length : Nat) : Int)
      · rw [if_pos (decide_eq_true b), if_pos b, if_neg (by decide)]; rfl
      · rw [if_neg (by rw [decide_eq_true_eq]; exact b)]; rfl
  unfold mtells
  rw [K27, K22, K21, K18, K17, K16, K12, K8, K5, K2, K1, K4, K24, K20, K19, K7, K6, if_pos s0]
  rcases he with rfl | rfl
  · rw [if_pos (show (((0, j0, all) : Nat × Int × List LB).1 == 0) = true from rfl), if_pos K25, if_pos t1, if_pos K26, if_pos t2, if_pos s1, if_pos s2, if_pos s4, if_pos hP, ne, if_neg (by decide), if_pos mP, if_pos mE]
    exact fin
  · rw [if_neg (show ¬ (((1, j0, all) : Nat × Int × List LB).1 == 0) = true by intro h; cases h), if_pos (show (((1, j0, all) : Nat × Int × List LB).1 == 1) = true from rfl), if_pos K25, if_pos t1, if_pos K26, if_pos t2, if_pos s1, if_pos s2, if_pos s4, if_pos hP, ne, if_neg (by decide), if_pos mP, if_pos mE]
    exact fin
theorem mtells_law (x0 : List (List Int × List Int)) (x1 : SS) (x2 : HS) (x3 x4 : Int) (_ : Ty.ok (.sl (.pair (.sl (.int .i64)) (.sl (.int .i64)))) x0) (ok1 : Ty.ok (.sl (.pair (.sl (.pair .str (.pair .str (.int .i64)))) (.pair (.int .i64) (.int .i64)))) x1) (ok2 : Ty.ok (.sl (.pair (.sl (.pair .str (.pair .str (.int .i64)))) (.pair (.sl (.pair .str (.pair .str (.int .i64)))) (.sl .str)))) x2) (_ : Ty.ok (.int .i64) x3) (_ : Ty.ok (.int .i64) x4) : ∃ g B', CallAt Tryd.prog 4 g ∧ (g [argAV false (.sl (.pair (.sl (.int .i64)) (.sl (.int .i64)))) x0, argAV false (.sl (.pair (.sl (.pair .str (.pair .str (.int .i64)))) (.pair (.int .i64) (.int .i64)))) x1, argAV false (.sl (.pair (.sl (.pair .str (.pair .str (.int .i64)))) (.pair (.sl (.pair .str (.pair .str (.int .i64)))) (.sl .str)))) x2, argAV false (.int .i64) x3, argAV false (.int .i64) x4] []).run = some (.d (.bool true), B') :=
  mtells_at x0 x1 x2 x3 x4 (mtells_pure x0 x1 x2 x3 x4 (fun s hs z hz => ((ok1.2 s hs).1.2 z hz).1) (fun h hh => ⟨fun z hz => ((ok2.2 h hh).1.2 z hz).1, fun z hz => ((ok2.2 h hh).2.1.2 z hz).1, fun z hz => (ok2.2 h hh).2.2.2 z hz⟩))

end Go.Proofs.YtghkbjflejgieaaDoor.Dec
