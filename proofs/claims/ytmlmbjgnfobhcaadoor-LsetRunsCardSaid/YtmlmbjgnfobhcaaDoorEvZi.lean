/- slices.Insert of one struct of two texts: what it comes to. No condition. -/
import Derived.Test.YtmlmbjgnfobhcaaDoorEvZh
namespace Go.Ev
set_option linter.unusedVariables false
set_option linter.unusedSimpArgs false
set_option linter.unusedSectionVars false
theorem splice_mid {α : Type} (a b c xs : List α) (off : Nat) (ha : a.length = off) (hb : b.length = xs.length) : splice (a ++ b ++ c) off xs = a ++ xs ++ c := by
  subst ha
  unfold splice
  have h1 : (a ++ b ++ c).take a.length = a := by rw [List.append_assoc, List.take_left']; rfl
  have h2 : (a ++ b ++ c).drop (a.length + xs.length) = c := by rw [← hb, ← List.length_append, List.drop_left']; rfl
  rw [h1, h2]

theorem splice_end {α : Type} (a b xs : List α) (off : Nat) (ha : a.length = off) (hb : b.length ≤ xs.length) : splice (a ++ b) off xs = a ++ xs := by
  subst ha
  unfold splice
  rw [List.take_left', List.drop_eq_nil_of_le (by simp; omega), List.append_nil]
  rfl

theorem wrap_small {n : Int} (h0 : -9223372036854775808 ≤ n) (h1 : n ≤ 9223372036854775807) : IntKind.i64.wrap n = n := by
  rw [IntKind.wrap_i64]; omega

section
variable {l : List LTy.den} {x : LTy.den} {i k : Nat}

theorem ins_w1 (hb : (l.length + 1) * 32 ≤ 70368744177664) : IntKind.wrap .i64 ((((List.length l) : Nat) : Int) + (1)) = ((l.length + 1 : Nat) : Int) := by
  rw [wrap_small] <;> omega
theorem ins_w2 (hi : i < l.length) (hb : (l.length + 1) * 32 ≤ 70368744177664) : IntKind.wrap .i64 (((i : Nat) : Int) + (1)) = ((i + 1 : Nat) : Int) := by
  rw [wrap_small] <;> omega
theorem ins_w3 (hi : i < l.length) (hb : (l.length + 1) * 32 ≤ 70368744177664) : IntKind.wrap .i64 (((l.length + 1 : Nat) : Int) - ((i : Nat) : Int)) = ((l.length + 1 - i : Nat) : Int) := by
  rw [wrap_small] <;> omega

theorem ins_room_ok (hi : i < l.length) (hk : l.length + 1 ≤ k) (hb : (l.length + 1) * 32 ≤ 70368744177664) : (ins_room_conds l x i k).all id = true := by
  unfold ins_room_conds
  simp only [ins_w1 hb, ins_w2 hi hb, Int.toNat_natCast, Nat.sub_zero, Nat.zero_add, List.length_take, List.length_drop]
  simp only [List.all_cons, List.all_nil, id, Bool.and_true, Bool.and_eq_true, beq_iff_eq, decide_eq_true_eq, decide_eq_false_iff_not, Bool.or_eq_true, Bool.not_eq_true', beq_eq_false_iff_ne]
  simp only [splice, List.length_append, List.length_take, List.length_drop]
  refine ⟨?_, ?_, ?_, ?_, ?_, ?_, ?_, ?_, ?_, ?_, ?_, ?_, ?_, ?_, ?_, ?_, ?_, ?_, ?_, ?_, ?_, ?_, ?_⟩
  all_goals first | omega | (simp; done) | (simp; omega)

theorem ins_full_ok (hi : i < l.length) (hk : k = l.length) (hb : (l.length + 1) * 32 ≤ 70368744177664) : (ins_full_conds l x i k).all id = true := by
  unfold ins_full_conds
  simp only [ins_w1 hb, ins_w2 hi hb, ins_w3 hi hb, Int.toNat_natCast, Nat.sub_zero, Nat.zero_add, List.length_take, List.length_drop]
  simp only [List.all_cons, List.all_nil, id, Bool.and_true, Bool.and_eq_true, beq_iff_eq, decide_eq_true_eq, decide_eq_false_iff_not, Bool.or_eq_true, Bool.not_eq_true', beq_eq_false_iff_ne]
  simp only [splice, List.length_append, List.length_take, List.length_drop, List.length_replicate, List.length_singleton]
  refine ⟨?_, ?_, ?_, ?_, ?_, ?_, ?_, ?_, ?_, ?_, ?_, ?_, ?_, ?_, ?_, ?_, ?_, ?_, ?_, ?_⟩
  all_goals first | omega | (simp; done) | (simp; omega)

theorem ins_room_is (hi : i < l.length) (hb : (l.length + 1) * 32 ≤ 70368744177664) : ins_room_res l x i k = (.sr 0 0 (l.length + 1) 2 (some k), [.arr LTy (l.take i ++ x :: l.drop i) true, .arr LTy [x] true]) := by
  unfold ins_room_res
  simp only [ins_w1 hb, ins_w2 hi hb, Int.toNat_natCast, Nat.sub_zero, Nat.zero_add]
  have e1 : min (l.length + 1 - i) (l.length - i) = l.length - i := by omega
  have e2 : min (l.length + 1 - i) (l.length + 1 - (i + 1)) = l.length - i := by omega
  have e3 : min 1 (l.length + 1 - i) = 1 := by omega
  rw [e1, e2, e3]
  have e4 : List.take (l.length - i) (List.take (l.length - i) (List.drop i l)) = List.drop i l := by
    rw [List.take_take, Nat.min_self, List.take_of_length_le]; simp
  have e5 : List.take 1 (List.take (min 1 [x].length) (List.drop 0 [x])) = [x] := rfl
  rw [show List.take (l.length - i) (List.take (l.length - i) (List.drop i l)) = List.drop i l from e4]
  have e6 : splice l (i + 1) (List.drop i l) = l.take i ++ [l[i]] ++ List.drop i l := by
    conv => lhs; rw [show l = l.take (i + 1) ++ l.drop (i + 1) from (List.take_append_drop _ _).symm]
    rw [splice_end _ _ _ _ (by simp; omega) (by simp; omega)]
    simp only [List.take_append_drop]
    rw [List.take_succ_eq_append_getElem hi]
  refine Prod.ext rfl ?_
  simp only [List.cons.injEq, and_true]
  rw [show (splice (splice l (i + 1) (List.drop i l)) i (List.take 1 (List.take (min 1 [x].length) (List.drop 0 [x])))) = l.take i ++ x :: l.drop i from by
    rw [e6]
    rw [splice_mid _ _ _ _ _ (by simp; omega) (by simp)]
    simp]

theorem ins_full_is (hi : i < l.length) (hb : (l.length + 1) * 32 ≤ 70368744177664) : ins_full_res l x i k = (.sr 2 0 (l.length + 1) 2 none, [.arr LTy l true, .arr LTy [x] true, .arr LTy (l.take i ++ x :: l.drop i) true]) := by
  unfold ins_full_res
  simp only [ins_w1 hb, ins_w2 hi hb, ins_w3 hi hb, Int.toNat_natCast, Nat.sub_zero, Nat.zero_add]
  have e1 : i + (l.length + 1 - i) = l.length + 1 := by omega
  have e2 : min (l.length - i) (l.length - i) = l.length - i := by omega
  have e3 : min (l.length - i) (l.length + 1 - (i + 1)) = l.length - i := by omega
  have e4 : min 1 (l.length + 1 - i) = 1 := by omega
  have e5 : List.take (l.length - i) (List.take (l.length - i) (List.drop i l)) = List.drop i l := by
    rw [List.take_take, Nat.min_self, List.take_of_length_le]; simp
  rw [e1, e2, e3, e4, e5]
  have e6 : splice (List.take i (List.drop 0 l) ++ List.replicate (l.length + 1 - i) (Ty.dflt (.pair .str .str))) i (List.take 1 (List.take (min 1 [x].length) (List.drop 0 [x]))) = l.take i ++ [x] ++ List.replicate (l.length - i) (Ty.dflt (.pair .str .str)) := by
    rw [show l.length + 1 - i = (l.length - i) + 1 by omega, List.replicate_succ]
    rw [show ∀ (d : LTy.den) (r : List LTy.den), d :: r = [d] ++ r from fun _ _ => rfl, ← List.append_assoc]
    exact splice_mid _ _ _ _ _ (by simp; omega) (by simp)
  refine Prod.ext rfl ?_
  rw [e6, splice_end _ _ _ _ (by simp; omega) (by simp)]
  simp
end

end Go.Ev
