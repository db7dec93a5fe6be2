/- LsetTells, as a plain function. LsetTells: its plain law. -/
import Derived.Test.YtcdpgldecikejaaDoorQF7
import Derived.KernelRfl
namespace Go.Proofs.YtcdpgldecikejaaDoor.Dec
open Go.Ev
set_option linter.unusedVariables false
set_option linter.unusedSimpArgs false
set_option maxRecDepth 100000
noncomputable def fn6 : AFn := (F 6).getD ⟨0, [], .bad, false, false, noHd⟩
noncomputable def body6 : AC := fn6.body
def l6_1 (m : Nat) : Nat → List UInt8 → Int → Int → List ((List UInt8) × (List UInt8)) → List (List UInt8) → List ((List UInt8) × (List UInt8)) → List ((List UInt8) × (List UInt8)) → Bool → Int → Int → (List UInt8) × (List UInt8) → Option (Nat × Bool × Int)
  | 0, _, _, _, _, _, _, _, _, _, _, _ => none
  | n + 1, x1, s33, s34, b0, b1, b2, b3, s13', s39', s40', b4' => if decide (s40' < s39') = true then
      if decide (0 ≤ s40') = true then
        if decide (s40' < (((List.length b1) : Nat) : Int)) = true then
          if decide ((0 + (Int.toNat s40')) < (List.length b1)) = true then
            if s13' = true then
              l6_1 m n x1 s33 s34 b0 b1 b2 b3 true s39' ((IntKind.wrap .i64 (s40' + (1)))) b4'
            else
              l6_1 m n x1 s33 s34 b0 b1 b2 b3 (((List.getD b1 (0 + (Int.toNat s40')) ([] : List UInt8)) == b4'.1)) s39' ((IntKind.wrap .i64 (s40' + (1)))) b4'
          else
            none
        else
          none
      else
        none
    else
      some (0, s13', s40')
def l6_1D : Nat × Bool × Int := (0, false, 0)
@[reducible] def l6_1R (m n : Nat) (x1 : List UInt8) (s33 : Int) (s34 : Int) (b0 : List ((List UInt8) × (List UInt8))) (b1 : List (List UInt8)) (b2 : List ((List UInt8) × (List UInt8))) (b3 : List ((List UInt8) × (List UInt8))) (s13' : Bool) (s39' : Int) (s40' : Int) (b4' : (List UInt8) × (List UInt8)) : Nat × Bool × Int := Option.getD (l6_1 m n x1 s33 s34 b0 b1 b2 b3 s13' s39' s40' b4') l6_1D
def l6_1H (x1 : List UInt8) (s33 : Int) (s34 : Int) (b0 : List ((List UInt8) × (List UInt8))) (b1 : List (List UInt8)) (b2 : List ((List UInt8) × (List UInt8))) (b3 : List ((List UInt8) × (List UInt8))) (s13' : Bool) (s39' : Int) (s40' : Int) (b4' : (List UInt8) × (List UInt8)) : Env := [.top, (.d (.str x1)), .top, .top, .top, .top, .top, (.sr 0 0 (List.length b0) 2 none), (.sr 1 0 (List.length b1) 1 none), (.sr 2 0 (List.length b2) 2 none), (.sr 3 0 (List.length b3) 2 none), .top, (.ptr 4 0), (.d (.bool (s13'))), .top, .top, .top, .top, .top, .top, .top, .top, .top, .top, .top, .top, .top, .top, .top, .top, .top, .top, (.sr 0 0 (List.length b0) 2 none), (.d (.int .i64 s33)), (.d (.int .i64 s34)), .top, .top, .top, (.sr 1 0 (List.length b1) 1 none), (.d (.int .i64 s39')), (.d (.int .i64 s40')), .top, .top, .top, .top, .top, .top, .top, .top, .top, .top, .top, .top, .top, .top, .top, .top, .top, .top, .top, .top, .top, .top, .top, .top, .top, .top, .top, .top, .top, .top, .top, .top, .top, .top, .top, .top, .top, .top, .top, .top, .top, .top, .top, .top, .top, .top, .top, .top, .top, .top, .top, .top, .top, .top, .top, .top, .top, .top, .top, .top, .top, .top, .top, .top, .top, .top, .top, .top, .top, .top, .top, .top, .top, .top, .top, .top, .top, .top, .top, .top, .top, .top, .top, .top, .top, .top, .top, .top]
def l6_1B (x1 : List UInt8) (s33 : Int) (s34 : Int) (b0 : List ((List UInt8) × (List UInt8))) (b1 : List (List UInt8)) (b2 : List ((List UInt8) × (List UInt8))) (b3 : List ((List UInt8) × (List UInt8))) (s13' : Bool) (s39' : Int) (s40' : Int) (b4' : (List UInt8) × (List UInt8)) : Boxes := [(.arr (.pair .str .str) b0 true), (.arr .str b1 true), (.arr (.pair .str .str) b2 true), (.arr (.pair .str .str) b3 true), (.cells [(.d (.str b4'.1)), (.d (.str b4'.2))])]
def l6_1E (x1 : List UInt8) (s33 : Int) (s34 : Int) (b0 : List ((List UInt8) × (List UInt8))) (b1 : List (List UInt8)) (b2 : List ((List UInt8) × (List UInt8))) (b3 : List ((List UInt8) × (List UInt8))) (s13' : Bool) (s39' : Int) (s40' : Int) (b4' : (List UInt8) × (List UInt8)) : Nat → AEx × Env × Boxes
  | _ => (.exit 2, [.top, (.d (.str x1)), .top, .top, .top, .top, .top, (.sr 0 0 (List.length b0) 2 none), (.sr 1 0 (List.length b1) 1 none), (.sr 2 0 (List.length b2) 2 none), (.sr 3 0 (List.length b3) 2 none), .top, (.ptr 4 0), (.d (.bool (s13'))), .top, .top, .top, .top, .top, .top, .top, .top, .top, .top, .top, .top, .top, .top, .top, .top, .top, .top, (.sr 0 0 (List.length b0) 2 none), (.d (.int .i64 s33)), (.d (.int .i64 s34)), .top, .top, .top, (.sr 1 0 (List.length b1) 1 none), (.d (.int .i64 s39')), (.d (.int .i64 s40')), (.d (.bool (decide (s40' < s39')))), .top, .top, .top, .top, .top, .top, .top, .top, .top, .top, .top, .top, .top, .top, .top, .top, .top, .top, .top, .top, .top, .top, .top, .top, .top, .top, .top, .top, .top, .top, .top, .top, .top, .top, .top, .top, .top, .top, .top, .top, .top, .top, .top, .top, .top, .top, .top, .top, .top, .top, .top, .top, .top, .top, .top, .top, .top, .top, .top, .top, .top, .top, .top, .top, .top, .top, .top, .top, .top, .top, .top, .top, .top, .top, .top, .top, .top, .top, .top, .top, .top, .top, .top, .top, .top, .top, .top], [(.arr (.pair .str .str) b0 true), (.arr .str b1 true), (.arr (.pair .str .str) b2 true), (.arr (.pair .str .str) b3 true), (.cells [(.d (.str b4'.1)), (.d (.str b4'.2))])])
noncomputable def lbl6_1 : AC := loopBody 1954210133890 body6

set_option maxHeartbeats 20000000 in
theorem l6_1_w0 (m n : Nat) (x1 : List UInt8) (s33 : Int) (s34 : Int) (b0 : List ((List UInt8) × (List UInt8))) (b1 : List (List UInt8)) (b2 : List ((List UInt8) × (List UInt8))) (b3 : List ((List UInt8) × (List UInt8))) (s13' : Bool) (s39' : Int) (s40' : Int) (b4' : (List UInt8) × (List UInt8)) (r : AEx × Env × Boxes) (c0 : decide (s40' < s39') = true) (c1 : decide (0 ≤ s40') = true) (c2 : decide (s40' < (((List.length b1) : Nat) : Int)) = true) (c3 : decide ((0 + (Int.toNat s40')) < (List.length b1)) = true) (c4 : s13' = true) (ih : (turns (hds 6 1954210133890) 0 1954210133890 (evC byref (evCall F S28 (m + 24)) (m + 24) 0 (hds 6) lbl6_1) n (l6_1H x1 s33 s34 b0 b1 b2 b3 true s39' ((IntKind.wrap .i64 (s40' + (1)))) b4') (l6_1B x1 s33 s34 b0 b1 b2 b3 true s39' ((IntKind.wrap .i64 (s40' + (1)))) b4')).run = some r) : (turns (hds 6 1954210133890) 0 1954210133890 (evC byref (evCall F S28 (m + 24)) (m + 24) 0 (hds 6) lbl6_1) (n + 1) (l6_1H x1 s33 s34 b0 b1 b2 b3 s13' s39' s40' b4') (l6_1B x1 s33 s34 b0 b1 b2 b3 s13' s39' s40' b4')).run = some r := by
  exact turns_step (M.run_of_path _ [true, true, true, true, true, true, true, true, true] _ _ (by kernel_rfl) (all_t c0 (all_t c1 (all_t c2 (all_t c3 (all_t c4 (all_t c4 (all_t c4 (all_t c4 (all_t c4 all_nil)))))))))) ih
set_option maxHeartbeats 20000000 in
theorem l6_1_w1 (m n : Nat) (x1 : List UInt8) (s33 : Int) (s34 : Int) (b0 : List ((List UInt8) × (List UInt8))) (b1 : List (List UInt8)) (b2 : List ((List UInt8) × (List UInt8))) (b3 : List ((List UInt8) × (List UInt8))) (s13' : Bool) (s39' : Int) (s40' : Int) (b4' : (List UInt8) × (List UInt8)) (r : AEx × Env × Boxes) (c0 : decide (s40' < s39') = true) (c1 : decide (0 ≤ s40') = true) (c2 : decide (s40' < (((List.length b1) : Nat) : Int)) = true) (c3 : decide ((0 + (Int.toNat s40')) < (List.length b1)) = true) (c4 : ¬ s13' = true) (ih : (turns (hds 6 1954210133890) 0 1954210133890 (evC byref (evCall F S28 (m + 24)) (m + 24) 0 (hds 6) lbl6_1) n (l6_1H x1 s33 s34 b0 b1 b2 b3 (((List.getD b1 (0 + (Int.toNat s40')) ([] : List UInt8)) == b4'.1)) s39' ((IntKind.wrap .i64 (s40' + (1)))) b4') (l6_1B x1 s33 s34 b0 b1 b2 b3 (((List.getD b1 (0 + (Int.toNat s40')) ([] : List UInt8)) == b4'.1)) s39' ((IntKind.wrap .i64 (s40' + (1)))) b4')).run = some r) : (turns (hds 6 1954210133890) 0 1954210133890 (evC byref (evCall F S28 (m + 24)) (m + 24) 0 (hds 6) lbl6_1) (n + 1) (l6_1H x1 s33 s34 b0 b1 b2 b3 s13' s39' s40' b4') (l6_1B x1 s33 s34 b0 b1 b2 b3 s13' s39' s40' b4')).run = some r := by
  exact turns_step (M.run_of_path _ [true, true, true, true, false, false, false, false, false] _ _ (by kernel_rfl) (all_t c0 (all_t c1 (all_t c2 (all_t c3 (all_f c4 (all_f c4 (all_f c4 (all_f c4 (all_f c4 all_nil)))))))))) ih
set_option maxHeartbeats 20000000 in
theorem l6_1_w2 (m n : Nat) (x1 : List UInt8) (s33 : Int) (s34 : Int) (b0 : List ((List UInt8) × (List UInt8))) (b1 : List (List UInt8)) (b2 : List ((List UInt8) × (List UInt8))) (b3 : List ((List UInt8) × (List UInt8))) (s13' : Bool) (s39' : Int) (s40' : Int) (b4' : (List UInt8) × (List UInt8)) (c0 : ¬ decide (s40' < s39') = true) : (turns (hds 6 1954210133890) 0 1954210133890 (evC byref (evCall F S28 (m + 24)) (m + 24) 0 (hds 6) lbl6_1) (n + 1) (l6_1H x1 s33 s34 b0 b1 b2 b3 s13' s39' s40' b4') (l6_1B x1 s33 s34 b0 b1 b2 b3 s13' s39' s40' b4')).run = some (.exit 2, [.top, (.d (.str x1)), .top, .top, .top, .top, .top, (.sr 0 0 (List.length b0) 2 none), (.sr 1 0 (List.length b1) 1 none), (.sr 2 0 (List.length b2) 2 none), (.sr 3 0 (List.length b3) 2 none), .top, (.ptr 4 0), (.d (.bool (s13'))), .top, .top, .top, .top, .top, .top, .top, .top, .top, .top, .top, .top, .top, .top, .top, .top, .top, .top, (.sr 0 0 (List.length b0) 2 none), (.d (.int .i64 s33)), (.d (.int .i64 s34)), .top, .top, .top, (.sr 1 0 (List.length b1) 1 none), (.d (.int .i64 s39')), (.d (.int .i64 s40')), (.d (.bool (decide (s40' < s39')))), .top, .top, .top, .top, .top, .top, .top, .top, .top, .top, .top, .top, .top, .top, .top, .top, .top, .top, .top, .top, .top, .top, .top, .top, .top, .top, .top, .top, .top, .top, .top, .top, .top, .top, .top, .top, .top, .top, .top, .top, .top, .top, .top, .top, .top, .top, .top, .top, .top, .top, .top, .top, .top, .top, .top, .top, .top, .top, .top, .top, .top, .top, .top, .top, .top, .top, .top, .top, .top, .top, .top, .top, .top, .top, .top, .top, .top, .top, .top, .top, .top, .top, .top, .top, .top, .top, .top], [(.arr (.pair .str .str) b0 true), (.arr .str b1 true), (.arr (.pair .str .str) b2 true), (.arr (.pair .str .str) b3 true), (.cells [(.d (.str b4'.1)), (.d (.str b4'.2))])]) := by
  exact turns_last (by simp) (M.run_of_path _ [false] _ _ (by kernel_rfl) (all_f c0 all_nil)) 

set_option maxHeartbeats 20000000 in
theorem l6_1_step (m n : Nat) (ih : ∀ (x1 : List UInt8) (s33 : Int) (s34 : Int) (b0 : List ((List UInt8) × (List UInt8))) (b1 : List (List UInt8)) (b2 : List ((List UInt8) × (List UInt8))) (b3 : List ((List UInt8) × (List UInt8))) (s13' : Bool) (s39' : Int) (s40' : Int) (b4' : (List UInt8) × (List UInt8)) (q : Nat × Bool × Int), l6_1 m n x1 s33 s34 b0 b1 b2 b3 s13' s39' s40' b4' = some q → (turns (hds 6 1954210133890) 0 1954210133890 (evC byref (evCall F S28 (m + 24)) (m + 24) 0 (hds 6) lbl6_1) n (l6_1H x1 s33 s34 b0 b1 b2 b3 s13' s39' s40' b4') (l6_1B x1 s33 s34 b0 b1 b2 b3 s13' s39' s40' b4')).run = some (l6_1E (x1) (s33) (s34) (b0) (b1) (b2) (b3) (q.2.1) (s39') (q.2.2) (b4') q.1)) (x1 : List UInt8) (s33 : Int) (s34 : Int) (b0 : List ((List UInt8) × (List UInt8))) (b1 : List (List UInt8)) (b2 : List ((List UInt8) × (List UInt8))) (b3 : List ((List UInt8) × (List UInt8))) (s13' : Bool) (s39' : Int) (s40' : Int) (b4' : (List UInt8) × (List UInt8)) (q : Nat × Bool × Int) (h : l6_1 m (n + 1) x1 s33 s34 b0 b1 b2 b3 s13' s39' s40' b4' = some q) : (turns (hds 6 1954210133890) 0 1954210133890 (evC byref (evCall F S28 (m + 24)) (m + 24) 0 (hds 6) lbl6_1) (n + 1) (l6_1H x1 s33 s34 b0 b1 b2 b3 s13' s39' s40' b4') (l6_1B x1 s33 s34 b0 b1 b2 b3 s13' s39' s40' b4')).run = some (l6_1E (x1) (s33) (s34) (b0) (b1) (b2) (b3) (q.2.1) (s39') (q.2.2) (b4') q.1) := by
  rw [l6_1] at h
  refine ite_cases h (fun c0 h => ?_) (fun c0 h => ?_)
  · skip
    refine ite_cases h (fun c1 h => ?_) (fun c1 h => ?_)
    · skip
      refine ite_cases h (fun c2 h => ?_) (fun c2 h => ?_)
      · skip
        refine ite_cases h (fun c3 h => ?_) (fun c3 h => ?_)
        · skip
          refine ite_cases h (fun c4 h => ?_) (fun c4 h => ?_)
          · skip
            exact l6_1_w0 m n x1 s33 s34 b0 b1 b2 b3 s13' s39' s40' b4' _ c0 c1 c2 c3 c4 (ih _ _ _ _ _ _ _ _ _ _ _ q h)
          · skip
            exact l6_1_w1 m n x1 s33 s34 b0 b1 b2 b3 s13' s39' s40' b4' _ c0 c1 c2 c3 c4 (ih _ _ _ _ _ _ _ _ _ _ _ q h)
        · skip
          cases h
      · skip
        cases h
    · skip
      cases h
  · skip
    cases h
    exact l6_1_w2 m n x1 s33 s34 b0 b1 b2 b3 s13' s39' s40' b4' c0
set_option maxHeartbeats 20000000 in
theorem l6_1_ok (m : Nat) : ∀ (n : Nat) (x1 : List UInt8) (s33 : Int) (s34 : Int) (b0 : List ((List UInt8) × (List UInt8))) (b1 : List (List UInt8)) (b2 : List ((List UInt8) × (List UInt8))) (b3 : List ((List UInt8) × (List UInt8))) (s13' : Bool) (s39' : Int) (s40' : Int) (b4' : (List UInt8) × (List UInt8)) (q : Nat × Bool × Int), l6_1 m n x1 s33 s34 b0 b1 b2 b3 s13' s39' s40' b4' = some q → (turns (hds 6 1954210133890) 0 1954210133890 (evC byref (evCall F S28 (m + 24)) (m + 24) 0 (hds 6) lbl6_1) n (l6_1H x1 s33 s34 b0 b1 b2 b3 s13' s39' s40' b4') (l6_1B x1 s33 s34 b0 b1 b2 b3 s13' s39' s40' b4')).run = some (l6_1E (x1) (s33) (s34) (b0) (b1) (b2) (b3) (q.2.1) (s39') (q.2.2) (b4') q.1)
  | 0, x1, s33, s34, b0, b1, b2, b3, s13', s39', s40', b4', q, h => by cases h
  | n + 1, x1, s33, s34, b0, b1, b2, b3, s13', s39', s40', b4', q, h => l6_1_step m n (l6_1_ok m n) x1 s33 s34 b0 b1 b2 b3 s13' s39' s40' b4' q h

def l6_0 (m : Nat) : Nat → List UInt8 → Int → Int → List ((List UInt8) × (List UInt8)) → List (List UInt8) → List ((List UInt8) × (List UInt8)) → List ((List UInt8) × (List UInt8)) → Option (Nat × Int × (List ((List UInt8) × (List UInt8))) × (List ((List UInt8) × (List UInt8))))
  | 0, _, _, _, _, _, _, _ => none
  | n + 1, x1, s33, s34, b0, b1, b2, b3 => if decide (s34 < s33) = true then
      if decide (0 ≤ s34) = true then
        if decide (s34 < (((List.length b0) : Nat) : Int)) = true then
          if decide ((0 + (Int.toNat s34)) < (List.length b0)) = true then
            if (Option.isSome (l6_1 m (m + 24) x1 s33 s34 b0 b1 b2 b3 false ((((List.length b1) : Nat) : Int)) 0 ((List.getD b0 (0 + (Int.toNat s34)) (([] : List UInt8), ([] : List UInt8)))))) = true then
              if (l6_1R m (m + 24) x1 s33 s34 b0 b1 b2 b3 false ((((List.length b1) : Nat) : Int)) 0 ((List.getD b0 (0 + (Int.toNat s34)) (([] : List UInt8), ([] : List UInt8))))).2.1 = true then
                if decide ((((List.length b2) + 1) * 32) ≤ 70368744177664) = true then
                  l6_0 m n x1 s33 ((IntKind.wrap .i64 (s34 + (1)))) b0 b1 ((b2 ++ [((List.getD b0 (0 + (Int.toNat s34)) (([] : List UInt8), ([] : List UInt8))))])) b3
                else
                  none
              else
                if decide ((((List.length b3) + 1) * 32) ≤ 70368744177664) = true then
                  l6_0 m n x1 s33 ((IntKind.wrap .i64 (s34 + (1)))) b0 b1 b2 ((b3 ++ [((List.getD b0 (0 + (Int.toNat s34)) (([] : List UInt8), ([] : List UInt8))))]))
                else
                  none
            else
              none
          else
            none
        else
          none
      else
        none
    else
      some (0, s34, b2, b3)
def l6_0D : Nat × Int × (List ((List UInt8) × (List UInt8))) × (List ((List UInt8) × (List UInt8))) := (0, 0, [], [])
@[reducible] def l6_0R (m n : Nat) (x1 : List UInt8) (s33 : Int) (s34 : Int) (b0 : List ((List UInt8) × (List UInt8))) (b1 : List (List UInt8)) (b2 : List ((List UInt8) × (List UInt8))) (b3 : List ((List UInt8) × (List UInt8))) : Nat × Int × (List ((List UInt8) × (List UInt8))) × (List ((List UInt8) × (List UInt8))) := Option.getD (l6_0 m n x1 s33 s34 b0 b1 b2 b3) l6_0D
def l6_0H (x1 : List UInt8) (s33 : Int) (s34 : Int) (b0 : List ((List UInt8) × (List UInt8))) (b1 : List (List UInt8)) (b2 : List ((List UInt8) × (List UInt8))) (b3 : List ((List UInt8) × (List UInt8))) : Env := [.top, (.d (.str x1)), .top, .top, .top, .top, .top, (.sr 0 0 (List.length b0) 2 none), (.sr 1 0 (List.length b1) 1 none), (.sr 2 0 (List.length b2) 2 none), (.sr 3 0 (List.length b3) 2 none), .top, .top, .top, .top, .top, .top, .top, .top, .top, .top, .top, .top, .top, .top, .top, .top, .top, .top, .top, .top, .top, (.sr 0 0 (List.length b0) 2 none), (.d (.int .i64 s33)), (.d (.int .i64 s34)), .top, .top, .top, .top, .top, .top, .top, .top, .top, .top, .top, .top, .top, .top, .top, .top, .top, .top, .top, .top, .top, .top, .top, .top, .top, .top, .top, .top, .top, .top, .top, .top, .top, .top, .top, .top, .top, .top, .top, .top, .top, .top, .top, .top, .top, .top, .top, .top, .top, .top, .top, .top, .top, .top, .top, .top, .top, .top, .top, .top, .top, .top, .top, .top, .top, .top, .top, .top, .top, .top, .top, .top, .top, .top, .top, .top, .top, .top, .top, .top, .top, .top, .top, .top, .top, .top, .top, .top, .top, .top, .top, .top, .top, .top]
def l6_0B (x1 : List UInt8) (s33 : Int) (s34 : Int) (b0 : List ((List UInt8) × (List UInt8))) (b1 : List (List UInt8)) (b2 : List ((List UInt8) × (List UInt8))) (b3 : List ((List UInt8) × (List UInt8))) : Boxes := [(.arr (.pair .str .str) b0 true), (.arr .str b1 true), (.arr (.pair .str .str) b2 true), (.arr (.pair .str .str) b3 true)]
def l6_0E (x1 : List UInt8) (s33 : Int) (s34 : Int) (b0 : List ((List UInt8) × (List UInt8))) (b1 : List (List UInt8)) (b2 : List ((List UInt8) × (List UInt8))) (b3 : List ((List UInt8) × (List UInt8))) : Nat → AEx × Env × Boxes
  | _ => (.exit 0, [.top, (.d (.str x1)), .top, .top, .top, .top, .top, (.sr 0 0 (List.length b0) 2 none), (.sr 1 0 (List.length b1) 1 none), (.sr 2 0 (List.length b2) 2 none), (.sr 3 0 (List.length b3) 2 none), .top, .top, .top, .top, .top, .top, .top, .top, .top, .top, .top, .top, .top, .top, .top, .top, .top, .top, .top, .top, .top, (.sr 0 0 (List.length b0) 2 none), (.d (.int .i64 s33)), (.d (.int .i64 s34)), (.d (.bool (decide (s34 < s33)))), .top, .top, .top, .top, .top, .top, .top, .top, .top, .top, .top, .top, .top, .top, .top, .top, .top, .top, .top, .top, .top, .top, .top, .top, .top, .top, .top, .top, .top, .top, .top, .top, .top, .top, .top, .top, .top, .top, .top, .top, .top, .top, .top, .top, .top, .top, .top, .top, .top, .top, .top, .top, .top, .top, .top, .top, .top, .top, .top, .top, .top, .top, .top, .top, .top, .top, .top, .top, .top, .top, .top, .top, .top, .top, .top, .top, .top, .top, .top, .top, .top, .top, .top, .top, .top, .top, .top, .top, .top, .top, .top, .top, .top], [(.arr (.pair .str .str) b0 true), (.arr .str b1 true), (.arr (.pair .str .str) b2 true), (.arr (.pair .str .str) b3 true)])
noncomputable def lbl6_0 : AC := loopBody 30064772994 body6

set_option maxHeartbeats 20000000 in
theorem l6_0_w0 (m n : Nat) (x1 : List UInt8) (s33 : Int) (s34 : Int) (b0 : List ((List UInt8) × (List UInt8))) (b1 : List (List UInt8)) (b2 : List ((List UInt8) × (List UInt8))) (b3 : List ((List UInt8) × (List UInt8))) (r : AEx × Env × Boxes) (c0 : decide (s34 < s33) = true) (c1 : decide (0 ≤ s34) = true) (c2 : decide (s34 < (((List.length b0) : Nat) : Int)) = true) (c3 : decide ((0 + (Int.toNat s34)) < (List.length b0)) = true) (c4 : (Option.isSome (l6_1 m (m + 24) x1 s33 s34 b0 b1 b2 b3 false ((((List.length b1) : Nat) : Int)) 0 ((List.getD b0 (0 + (Int.toNat s34)) (([] : List UInt8), ([] : List UInt8)))))) = true) (c5 : (l6_1R m (m + 24) x1 s33 s34 b0 b1 b2 b3 false ((((List.length b1) : Nat) : Int)) 0 ((List.getD b0 (0 + (Int.toNat s34)) (([] : List UInt8), ([] : List UInt8))))).2.1 = true) (c7 : decide ((((List.length b2) + 1) * 32) ≤ 70368744177664) = true) (ih : (turns (hds 6 30064772994) 0 30064772994 (evC byref (evCall F S28 (m + 24)) (m + 24) 0 (hds 6) lbl6_0) n (l6_0H x1 s33 ((IntKind.wrap .i64 (s34 + (1)))) b0 b1 ((b2 ++ [((List.getD b0 (0 + (Int.toNat s34)) (([] : List UInt8), ([] : List UInt8))))])) b3) (l6_0B x1 s33 ((IntKind.wrap .i64 (s34 + (1)))) b0 b1 ((b2 ++ [((List.getD b0 (0 + (Int.toNat s34)) (([] : List UInt8), ([] : List UInt8))))])) b3)).run = some r) : (turns (hds 6 30064772994) 0 30064772994 (evC byref (evCall F S28 (m + 24)) (m + 24) 0 (hds 6) lbl6_0) (n + 1) (l6_0H x1 s33 s34 b0 b1 b2 b3) (l6_0B x1 s33 s34 b0 b1 b2 b3)).run = some r := by
  have ht : (turn (hds 6 30064772994) 0 30064772994 (evC byref (evCall F S28 (m + 24)) (m + 24) 0 (hds 6) lbl6_0) (l6_0H x1 s33 s34 b0 b1 b2 b3) (l6_0B x1 s33 s34 b0 b1 b2 b3)).run = some (.normal, [.top, (.d (.str x1)), .top, .top, .top, .top, .top, (.sr 0 0 (List.length b0) 2 none), (.sr 1 0 (List.length b1) 1 none), (.sr 2 0 ((List.length b2) + 1) 2 none), (.sr 3 0 (List.length b3) 2 none), .top, .top, .top, .top, .top, .top, .top, .top, .top, .top, .top, .top, .top, .top, .top, .top, .top, .top, .top, .top, .top, (.sr 0 0 (List.length b0) 2 none), (.d (.int .i64 s33)), (.d (.int .i64 (IntKind.wrap .i64 (s34 + (1))))), .top, .top, .top, .top, .top, .top, .top, .top, .top, .top, .top, .top, .top, .top, .top, .top, .top, .top, .top, .top, .top, .top, .top, .top, .top, .top, .top, .top, .top, .top, .top, .top, .top, .top, .top, .top, .top, .top, .top, .top, .top, .top, .top, .top, .top, .top, .top, .top, .top, .top, .top, .top, .top, .top, .top, .top, .top, .top, .top, .top, .top, .top, .top, .top, .top, .top, .top, .top, .top, .top, .top, .top, .top, .top, .top, .top, .top, .top, .top, .top, .top, .top, .top, .top, .top, .top, .top, .top, .top, .top, .top, .top, .top, .top], [(.arr (.pair .str .str) b0 true), (.arr .str b1 true), (.arr (.pair .str .str) (b2 ++ [((List.getD b0 (0 + (Int.toNat s34)) (([] : List UInt8), ([] : List UInt8))))]) true), (.arr (.pair .str .str) b3 true)]) := by
    refine turnT_ok (LS := (fun k => if k = 1954210133890 then some (l6_1E x1 s33 s34 b0 b1 b2 b3 ((l6_1R m (m + 24) x1 s33 s34 b0 b1 b2 b3 false ((((List.length b1) : Nat) : Int)) 0 ((List.getD b0 (0 + (Int.toNat s34)) (([] : List UInt8), ([] : List UInt8))))).2.1) (((((List.length b1) : Nat) : Int))) ((l6_1R m (m + 24) x1 s33 s34 b0 b1 b2 b3 false ((((List.length b1) : Nat) : Int)) 0 ((List.getD b0 (0 + (Int.toNat s34)) (([] : List UInt8), ([] : List UInt8))))).2.2) (((List.getD b0 (0 + (Int.toNat s34)) (([] : List UInt8), ([] : List UInt8))))) 0) else none)) (vis := [(1954210133890, l6_1H x1 s33 s34 b0 b1 b2 b3 false ((((List.length b1) : Nat) : Int)) 0 ((List.getD b0 (0 + (Int.toNat s34)) (([] : List UInt8), ([] : List UInt8)))), l6_1B x1 s33 s34 b0 b1 b2 b3 false ((((List.length b1) : Nat) : Int)) 0 ((List.getD b0 (0 + (Int.toNat s34)) (([] : List UInt8), ([] : List UInt8)))))]) (by kernel_rfl) (M.run_of_path _ [true, true, true, true, true, true, true, true] _ _ (by kernel_rfl) (all_t c0 (all_t c1 (all_t c2 (all_t c3 (all_t c5 (all_t rfl (all_t c7 (all_t (show decide ((List.length b2) = (List.length b2)) = true from decide_eq_true rfl) all_nil))))))))) ?_
    intro p hp p2 hq
    rcases List.mem_cons.1 hp with rfl | hp
    · skip
      have h3 := l6_1_ok m (m + 24) x1 s33 s34 b0 b1 b2 b3 false ((((List.length b1) : Nat) : Int)) 0 ((List.getD b0 (0 + (Int.toNat s34)) (([] : List UInt8), ([] : List UInt8)))) _ (some_getD (d := l6_1D) c4)
      exact Eq.trans (Eq.mp (by kernel_rfl) h3) hq
    cases hp
  refine turns_step ht (turns_eq ?_ ?_ ih)
  · unfold l6_0H
    first | (simp; done) | (simp [Nat.add_assoc]; done) | (simp; omega)
  · unfold l6_0B
    simp
set_option maxHeartbeats 20000000 in
theorem l6_0_w1 (m n : Nat) (x1 : List UInt8) (s33 : Int) (s34 : Int) (b0 : List ((List UInt8) × (List UInt8))) (b1 : List (List UInt8)) (b2 : List ((List UInt8) × (List UInt8))) (b3 : List ((List UInt8) × (List UInt8))) (r : AEx × Env × Boxes) (c0 : decide (s34 < s33) = true) (c1 : decide (0 ≤ s34) = true) (c2 : decide (s34 < (((List.length b0) : Nat) : Int)) = true) (c3 : decide ((0 + (Int.toNat s34)) < (List.length b0)) = true) (c4 : (Option.isSome (l6_1 m (m + 24) x1 s33 s34 b0 b1 b2 b3 false ((((List.length b1) : Nat) : Int)) 0 ((List.getD b0 (0 + (Int.toNat s34)) (([] : List UInt8), ([] : List UInt8)))))) = true) (c5 : ¬ (l6_1R m (m + 24) x1 s33 s34 b0 b1 b2 b3 false ((((List.length b1) : Nat) : Int)) 0 ((List.getD b0 (0 + (Int.toNat s34)) (([] : List UInt8), ([] : List UInt8))))).2.1 = true) (c7 : decide ((((List.length b3) + 1) * 32) ≤ 70368744177664) = true) (ih : (turns (hds 6 30064772994) 0 30064772994 (evC byref (evCall F S28 (m + 24)) (m + 24) 0 (hds 6) lbl6_0) n (l6_0H x1 s33 ((IntKind.wrap .i64 (s34 + (1)))) b0 b1 b2 ((b3 ++ [((List.getD b0 (0 + (Int.toNat s34)) (([] : List UInt8), ([] : List UInt8))))]))) (l6_0B x1 s33 ((IntKind.wrap .i64 (s34 + (1)))) b0 b1 b2 ((b3 ++ [((List.getD b0 (0 + (Int.toNat s34)) (([] : List UInt8), ([] : List UInt8))))])))).run = some r) : (turns (hds 6 30064772994) 0 30064772994 (evC byref (evCall F S28 (m + 24)) (m + 24) 0 (hds 6) lbl6_0) (n + 1) (l6_0H x1 s33 s34 b0 b1 b2 b3) (l6_0B x1 s33 s34 b0 b1 b2 b3)).run = some r := by
  have ht : (turn (hds 6 30064772994) 0 30064772994 (evC byref (evCall F S28 (m + 24)) (m + 24) 0 (hds 6) lbl6_0) (l6_0H x1 s33 s34 b0 b1 b2 b3) (l6_0B x1 s33 s34 b0 b1 b2 b3)).run = some (.normal, [.top, (.d (.str x1)), .top, .top, .top, .top, .top, (.sr 0 0 (List.length b0) 2 none), (.sr 1 0 (List.length b1) 1 none), (.sr 2 0 (List.length b2) 2 none), (.sr 3 0 ((List.length b3) + 1) 2 none), .top, .top, .top, .top, .top, .top, .top, .top, .top, .top, .top, .top, .top, .top, .top, .top, .top, .top, .top, .top, .top, (.sr 0 0 (List.length b0) 2 none), (.d (.int .i64 s33)), (.d (.int .i64 (IntKind.wrap .i64 (s34 + (1))))), .top, .top, .top, .top, .top, .top, .top, .top, .top, .top, .top, .top, .top, .top, .top, .top, .top, .top, .top, .top, .top, .top, .top, .top, .top, .top, .top, .top, .top, .top, .top, .top, .top, .top, .top, .top, .top, .top, .top, .top, .top, .top, .top, .top, .top, .top, .top, .top, .top, .top, .top, .top, .top, .top, .top, .top, .top, .top, .top, .top, .top, .top, .top, .top, .top, .top, .top, .top, .top, .top, .top, .top, .top, .top, .top, .top, .top, .top, .top, .top, .top, .top, .top, .top, .top, .top, .top, .top, .top, .top, .top, .top, .top, .top], [(.arr (.pair .str .str) b0 true), (.arr .str b1 true), (.arr (.pair .str .str) b2 true), (.arr (.pair .str .str) (b3 ++ [((List.getD b0 (0 + (Int.toNat s34)) (([] : List UInt8), ([] : List UInt8))))]) true)]) := by
    refine turnT_ok (LS := (fun k => if k = 1954210133890 then some (l6_1E x1 s33 s34 b0 b1 b2 b3 ((l6_1R m (m + 24) x1 s33 s34 b0 b1 b2 b3 false ((((List.length b1) : Nat) : Int)) 0 ((List.getD b0 (0 + (Int.toNat s34)) (([] : List UInt8), ([] : List UInt8))))).2.1) (((((List.length b1) : Nat) : Int))) ((l6_1R m (m + 24) x1 s33 s34 b0 b1 b2 b3 false ((((List.length b1) : Nat) : Int)) 0 ((List.getD b0 (0 + (Int.toNat s34)) (([] : List UInt8), ([] : List UInt8))))).2.2) (((List.getD b0 (0 + (Int.toNat s34)) (([] : List UInt8), ([] : List UInt8))))) 0) else none)) (vis := [(1954210133890, l6_1H x1 s33 s34 b0 b1 b2 b3 false ((((List.length b1) : Nat) : Int)) 0 ((List.getD b0 (0 + (Int.toNat s34)) (([] : List UInt8), ([] : List UInt8)))), l6_1B x1 s33 s34 b0 b1 b2 b3 false ((((List.length b1) : Nat) : Int)) 0 ((List.getD b0 (0 + (Int.toNat s34)) (([] : List UInt8), ([] : List UInt8)))))]) (by kernel_rfl) (M.run_of_path _ [true, true, true, true, false, true, true, true] _ _ (by kernel_rfl) (all_t c0 (all_t c1 (all_t c2 (all_t c3 (all_f c5 (all_t rfl (all_t c7 (all_t (show decide ((List.length b3) = (List.length b3)) = true from decide_eq_true rfl) all_nil))))))))) ?_
    intro p hp p2 hq
    rcases List.mem_cons.1 hp with rfl | hp
    · skip
      have h3 := l6_1_ok m (m + 24) x1 s33 s34 b0 b1 b2 b3 false ((((List.length b1) : Nat) : Int)) 0 ((List.getD b0 (0 + (Int.toNat s34)) (([] : List UInt8), ([] : List UInt8)))) _ (some_getD (d := l6_1D) c4)
      exact Eq.trans (Eq.mp (by kernel_rfl) h3) hq
    cases hp
  refine turns_step ht (turns_eq ?_ ?_ ih)
  · unfold l6_0H
    first | (simp; done) | (simp [Nat.add_assoc]; done) | (simp; omega)
  · unfold l6_0B
    simp
set_option maxHeartbeats 20000000 in
theorem l6_0_w2 (m n : Nat) (x1 : List UInt8) (s33 : Int) (s34 : Int) (b0 : List ((List UInt8) × (List UInt8))) (b1 : List (List UInt8)) (b2 : List ((List UInt8) × (List UInt8))) (b3 : List ((List UInt8) × (List UInt8))) (c0 : ¬ decide (s34 < s33) = true) : (turns (hds 6 30064772994) 0 30064772994 (evC byref (evCall F S28 (m + 24)) (m + 24) 0 (hds 6) lbl6_0) (n + 1) (l6_0H x1 s33 s34 b0 b1 b2 b3) (l6_0B x1 s33 s34 b0 b1 b2 b3)).run = some (.exit 0, [.top, (.d (.str x1)), .top, .top, .top, .top, .top, (.sr 0 0 (List.length b0) 2 none), (.sr 1 0 (List.length b1) 1 none), (.sr 2 0 (List.length b2) 2 none), (.sr 3 0 (List.length b3) 2 none), .top, .top, .top, .top, .top, .top, .top, .top, .top, .top, .top, .top, .top, .top, .top, .top, .top, .top, .top, .top, .top, (.sr 0 0 (List.length b0) 2 none), (.d (.int .i64 s33)), (.d (.int .i64 s34)), (.d (.bool (decide (s34 < s33)))), .top, .top, .top, .top, .top, .top, .top, .top, .top, .top, .top, .top, .top, .top, .top, .top, .top, .top, .top, .top, .top, .top, .top, .top, .top, .top, .top, .top, .top, .top, .top, .top, .top, .top, .top, .top, .top, .top, .top, .top, .top, .top, .top, .top, .top, .top, .top, .top, .top, .top, .top, .top, .top, .top, .top, .top, .top, .top, .top, .top, .top, .top, .top, .top, .top, .top, .top, .top, .top, .top, .top, .top, .top, .top, .top, .top, .top, .top, .top, .top, .top, .top, .top, .top, .top, .top, .top, .top, .top, .top, .top, .top, .top], [(.arr (.pair .str .str) b0 true), (.arr .str b1 true), (.arr (.pair .str .str) b2 true), (.arr (.pair .str .str) b3 true)]) := by
  exact turns_last (by simp) (M.run_of_path _ [false] _ _ (by kernel_rfl) (all_f c0 all_nil)) 

set_option maxHeartbeats 20000000 in
theorem l6_0_step (m n : Nat) (ih : ∀ (x1 : List UInt8) (s33 : Int) (s34 : Int) (b0 : List ((List UInt8) × (List UInt8))) (b1 : List (List UInt8)) (b2 : List ((List UInt8) × (List UInt8))) (b3 : List ((List UInt8) × (List UInt8))) (q : Nat × Int × (List ((List UInt8) × (List UInt8))) × (List ((List UInt8) × (List UInt8)))), l6_0 m n x1 s33 s34 b0 b1 b2 b3 = some q → (turns (hds 6 30064772994) 0 30064772994 (evC byref (evCall F S28 (m + 24)) (m + 24) 0 (hds 6) lbl6_0) n (l6_0H x1 s33 s34 b0 b1 b2 b3) (l6_0B x1 s33 s34 b0 b1 b2 b3)).run = some (l6_0E (x1) (s33) (q.2.1) (b0) (b1) (q.2.2.1) (q.2.2.2) q.1)) (x1 : List UInt8) (s33 : Int) (s34 : Int) (b0 : List ((List UInt8) × (List UInt8))) (b1 : List (List UInt8)) (b2 : List ((List UInt8) × (List UInt8))) (b3 : List ((List UInt8) × (List UInt8))) (q : Nat × Int × (List ((List UInt8) × (List UInt8))) × (List ((List UInt8) × (List UInt8)))) (h : l6_0 m (n + 1) x1 s33 s34 b0 b1 b2 b3 = some q) : (turns (hds 6 30064772994) 0 30064772994 (evC byref (evCall F S28 (m + 24)) (m + 24) 0 (hds 6) lbl6_0) (n + 1) (l6_0H x1 s33 s34 b0 b1 b2 b3) (l6_0B x1 s33 s34 b0 b1 b2 b3)).run = some (l6_0E (x1) (s33) (q.2.1) (b0) (b1) (q.2.2.1) (q.2.2.2) q.1) := by
  rw [l6_0] at h
  refine ite_cases h (fun c0 h => ?_) (fun c0 h => ?_)
  · skip
    refine ite_cases h (fun c1 h => ?_) (fun c1 h => ?_)
    · skip
      refine ite_cases h (fun c2 h => ?_) (fun c2 h => ?_)
      · skip
        refine ite_cases h (fun c3 h => ?_) (fun c3 h => ?_)
        · skip
          refine ite_cases h (fun c4 h => ?_) (fun c4 h => ?_)
          · skip
            refine ite_cases h (fun c5 h => ?_) (fun c5 h => ?_)
            · skip
              refine ite_cases h (fun c7 h => ?_) (fun c7 h => ?_)
              · skip
                exact l6_0_w0 m n x1 s33 s34 b0 b1 b2 b3 _ c0 c1 c2 c3 c4 c5 c7 (ih _ _ _ _ _ _ _ q h)
              · skip
                cases h
            · skip
              refine ite_cases h (fun c7 h => ?_) (fun c7 h => ?_)
              · skip
                exact l6_0_w1 m n x1 s33 s34 b0 b1 b2 b3 _ c0 c1 c2 c3 c4 c5 c7 (ih _ _ _ _ _ _ _ q h)
              · skip
                cases h
          · skip
            cases h
        · skip
          cases h
      · skip
        cases h
    · skip
      cases h
  · skip
    cases h
    exact l6_0_w2 m n x1 s33 s34 b0 b1 b2 b3 c0
set_option maxHeartbeats 20000000 in
theorem l6_0_ok (m : Nat) : ∀ (n : Nat) (x1 : List UInt8) (s33 : Int) (s34 : Int) (b0 : List ((List UInt8) × (List UInt8))) (b1 : List (List UInt8)) (b2 : List ((List UInt8) × (List UInt8))) (b3 : List ((List UInt8) × (List UInt8))) (q : Nat × Int × (List ((List UInt8) × (List UInt8))) × (List ((List UInt8) × (List UInt8)))), l6_0 m n x1 s33 s34 b0 b1 b2 b3 = some q → (turns (hds 6 30064772994) 0 30064772994 (evC byref (evCall F S28 (m + 24)) (m + 24) 0 (hds 6) lbl6_0) n (l6_0H x1 s33 s34 b0 b1 b2 b3) (l6_0B x1 s33 s34 b0 b1 b2 b3)).run = some (l6_0E (x1) (s33) (q.2.1) (b0) (b1) (q.2.2.1) (q.2.2.2) q.1)
  | 0, x1, s33, s34, b0, b1, b2, b3, q, h => by cases h
  | n + 1, x1, s33, s34, b0, b1, b2, b3, q, h => l6_0_step m n (l6_0_ok m n) x1 s33 s34 b0 b1 b2 b3 q h

def ltells (m : Nat) (x0 : List ((List UInt8) × (List UInt8))) (x1 : List UInt8) (x2 : List (List UInt8)) : Option Unit :=
  if (decide (0 ≤ (if (8) < (((List.length x0) : Nat) : Int) then (8) else (((List.length x0) : Nat) : Int))) && decide ((if (8) < (((List.length x0) : Nat) : Int) then (8) else (((List.length x0) : Nat) : Int)) ≤ (((List.length x0) : Nat) : Int))) = true then
    if decide (((0 + (List.length (List.drop 0 (List.take (Int.toNat (if (8) < (((List.length x0) : Nat) : Int) then (8) else (((List.length x0) : Nat) : Int))) x0)))) * 32) ≤ 70368744177664) = true then
      if (decide (0 ≤ (if (4) < (((List.length x2) : Nat) : Int) then (4) else (((List.length x2) : Nat) : Int))) && decide ((if (4) < (((List.length x2) : Nat) : Int) then (4) else (((List.length x2) : Nat) : Int)) ≤ (((List.length x2) : Nat) : Int))) = true then
        if decide (((0 + (List.length (List.drop 0 (List.take (Int.toNat (if (4) < (((List.length x2) : Nat) : Int) then (4) else (((List.length x2) : Nat) : Int))) x2)))) * 16) ≤ 70368744177664) = true then
          if (Option.isSome (l6_0 m (m + 24) x1 ((((0 + (List.length (List.drop 0 (List.take (Int.toNat (if (8) < (((List.length x0) : Nat) : Int) then (8) else (((List.length x0) : Nat) : Int))) x0)))) : Nat) : Int)) 0 ((List.drop 0 (List.take (Int.toNat (if (8) < (((List.length x0) : Nat) : Int) then (8) else (((List.length x0) : Nat) : Int))) x0))) ((List.drop 0 (List.take (Int.toNat (if (4) < (((List.length x2) : Nat) : Int) then (4) else (((List.length x2) : Nat) : Int))) x2))) (([] : List ((List UInt8) × (List UInt8)))) (([] : List ((List UInt8) × (List UInt8)))))) = true then
            if decide (List.length (List.take (List.length ((List.drop 0 (List.take (Int.toNat (if (8) < (((List.length x0) : Nat) : Int) then (8) else (((List.length x0) : Nat) : Int))) x0)))) (List.drop 0 ((List.drop 0 (List.take (Int.toNat (if (8) < (((List.length x0) : Nat) : Int) then (8) else (((List.length x0) : Nat) : Int))) x0))))) ≤ 1000000) = true then
              if lrightPre [(x1, ([120] : List UInt8))] = true then
                if lrightPre (List.take (List.length ((List.drop 0 (List.take (Int.toNat (if (8) < (((List.length x0) : Nat) : Int) then (8) else (((List.length x0) : Nat) : Int))) x0)))) (List.drop 0 ((List.drop 0 (List.take (Int.toNat (if (8) < (((List.length x0) : Nat) : Int) then (8) else (((List.length x0) : Nat) : Int))) x0))))) = true then
                  if ((lrightG (List.take (List.length ((List.drop 0 (List.take (Int.toNat (if (8) < (((List.length x0) : Nat) : Int) then (8) else (((List.length x0) : Nat) : Int))) x0)))) (List.drop 0 ((List.drop 0 (List.take (Int.toNat (if (8) < (((List.length x0) : Nat) : Int) then (8) else (((List.length x0) : Nat) : Int))) x0)))))) == (lrightG (List.take (List.length ((List.drop 0 (List.take (Int.toNat (if (8) < (((List.length x0) : Nat) : Int) then (8) else (((List.length x0) : Nat) : Int))) x0)))) (List.drop 0 ((List.drop 0 (List.take (Int.toNat (if (8) < (((List.length x0) : Nat) : Int) then (8) else (((List.length x0) : Nat) : Int))) x0))))))) = true then
                    if (decide (0 ≤ (((List.length ((List.drop 0 (List.take (Int.toNat (if (8) < (((List.length x0) : Nat) : Int) then (8) else (((List.length x0) : Nat) : Int))) x0)))) : Nat) : Int)) && decide ((((List.length ((List.drop 0 (List.take (Int.toNat (if (8) < (((List.length x0) : Nat) : Int) then (8) else (((List.length x0) : Nat) : Int))) x0)))) : Nat) : Int) ≤ (((List.length (roomyG (List.take (List.length ((List.drop 0 (List.take (Int.toNat (if (8) < (((List.length x0) : Nat) : Int) then (8) else (((List.length x0) : Nat) : Int))) x0)))) (List.drop 0 ((List.drop 0 (List.take (Int.toNat (if (8) < (((List.length x0) : Nat) : Int) then (8) else (((List.length x0) : Nat) : Int))) x0))))) (([113] : List UInt8), ([] : List UInt8)))) : Nat) : Int))) = true then
                      if lrightPre (List.drop 0 (List.take (Int.toNat (((List.length ((List.drop 0 (List.take (Int.toNat (if (8) < (((List.length x0) : Nat) : Int) then (8) else (((List.length x0) : Nat) : Int))) x0)))) : Nat) : Int)) (roomyG (List.take (List.length ((List.drop 0 (List.take (Int.toNat (if (8) < (((List.length x0) : Nat) : Int) then (8) else (((List.length x0) : Nat) : Int))) x0)))) (List.drop 0 ((List.drop 0 (List.take (Int.toNat (if (8) < (((List.length x0) : Nat) : Int) then (8) else (((List.length x0) : Nat) : Int))) x0))))) (([113] : List UInt8), ([] : List UInt8))))) = true then
                        if ((lprintG (List.drop 0 (List.take (Int.toNat (((List.length ((List.drop 0 (List.take (Int.toNat (if (8) < (((List.length x0) : Nat) : Int) then (8) else (((List.length x0) : Nat) : Int))) x0)))) : Nat) : Int)) (roomyG (List.take (List.length ((List.drop 0 (List.take (Int.toNat (if (8) < (((List.length x0) : Nat) : Int) then (8) else (((List.length x0) : Nat) : Int))) x0)))) (List.drop 0 ((List.drop 0 (List.take (Int.toNat (if (8) < (((List.length x0) : Nat) : Int) then (8) else (((List.length x0) : Nat) : Int))) x0))))) (([113] : List UInt8), ([] : List UInt8)))))) == (lprintG (List.take (List.length ((List.drop 0 (List.take (Int.toNat (if (8) < (((List.length x0) : Nat) : Int) then (8) else (((List.length x0) : Nat) : Int))) x0)))) (List.drop 0 ((List.drop 0 (List.take (Int.toNat (if (8) < (((List.length x0) : Nat) : Int) then (8) else (((List.length x0) : Nat) : Int))) x0))))))) = true then
                          if ((getG (List.take (List.length ((List.drop 0 (List.take (Int.toNat (if (8) < (((List.length x0) : Nat) : Int) then (8) else (((List.length x0) : Nat) : Int))) x0)))) (List.drop 0 ((List.drop 0 (List.take (Int.toNat (if (8) < (((List.length x0) : Nat) : Int) then (8) else (((List.length x0) : Nat) : Int))) x0))))) x1) == (getG (List.take (List.length ((List.drop 0 (List.take (Int.toNat (if (8) < (((List.length x0) : Nat) : Int) then (8) else (((List.length x0) : Nat) : Int))) x0)))) (List.drop 0 ((List.drop 0 (List.take (Int.toNat (if (8) < (((List.length x0) : Nat) : Int) then (8) else (((List.length x0) : Nat) : Int))) x0))))) x1)) = true then
                            if keepPre (List.take (List.length ((List.drop 0 (List.take (Int.toNat (if (8) < (((List.length x0) : Nat) : Int) then (8) else (((List.length x0) : Nat) : Int))) x0)))) (List.drop 0 ((List.drop 0 (List.take (Int.toNat (if (8) < (((List.length x0) : Nat) : Int) then (8) else (((List.length x0) : Nat) : Int))) x0))))) (List.take (List.length ((List.drop 0 (List.take (Int.toNat (if (4) < (((List.length x2) : Nat) : Int) then (4) else (((List.length x2) : Nat) : Int))) x2)))) (List.drop 0 ((List.drop 0 (List.take (Int.toNat (if (4) < (((List.length x2) : Nat) : Int) then (4) else (((List.length x2) : Nat) : Int))) x2))))) = true then
                              if decide (List.length (keepG (List.take (List.length ((List.drop 0 (List.take (Int.toNat (if (8) < (((List.length x0) : Nat) : Int) then (8) else (((List.length x0) : Nat) : Int))) x0)))) (List.drop 0 ((List.drop 0 (List.take (Int.toNat (if (8) < (((List.length x0) : Nat) : Int) then (8) else (((List.length x0) : Nat) : Int))) x0))))) (List.take (List.length ((List.drop 0 (List.take (Int.toNat (if (4) < (((List.length x2) : Nat) : Int) then (4) else (((List.length x2) : Nat) : Int))) x2)))) (List.drop 0 ((List.drop 0 (List.take (Int.toNat (if (4) < (((List.length x2) : Nat) : Int) then (4) else (((List.length x2) : Nat) : Int))) x2)))))) < 4611686018427387904) = true then
                                if ((show List ((List UInt8) × (List UInt8)) from (keepG (List.take (List.length ((List.drop 0 (List.take (Int.toNat (if (8) < (((List.length x0) : Nat) : Int) then (8) else (((List.length x0) : Nat) : Int))) x0)))) (List.drop 0 ((List.drop 0 (List.take (Int.toNat (if (8) < (((List.length x0) : Nat) : Int) then (8) else (((List.length x0) : Nat) : Int))) x0))))) (List.take (List.length ((List.drop 0 (List.take (Int.toNat (if (4) < (((List.length x2) : Nat) : Int) then (4) else (((List.length x2) : Nat) : Int))) x2)))) (List.drop 0 ((List.drop 0 (List.take (Int.toNat (if (4) < (((List.length x2) : Nat) : Int) then (4) else (((List.length x2) : Nat) : Int))) x2))))))) == (List.take (List.length (l6_0R m (m + 24) x1 ((((0 + (List.length (List.drop 0 (List.take (Int.toNat (if (8) < (((List.length x0) : Nat) : Int) then (8) else (((List.length x0) : Nat) : Int))) x0)))) : Nat) : Int)) 0 ((List.drop 0 (List.take (Int.toNat (if (8) < (((List.length x0) : Nat) : Int) then (8) else (((List.length x0) : Nat) : Int))) x0))) ((List.drop 0 (List.take (Int.toNat (if (4) < (((List.length x2) : Nat) : Int) then (4) else (((List.length x2) : Nat) : Int))) x2))) (([] : List ((List UInt8) × (List UInt8)))) (([] : List ((List UInt8) × (List UInt8))))).2.2.1) (List.drop 0 (l6_0R m (m + 24) x1 ((((0 + (List.length (List.drop 0 (List.take (Int.toNat (if (8) < (((List.length x0) : Nat) : Int) then (8) else (((List.length x0) : Nat) : Int))) x0)))) : Nat) : Int)) 0 ((List.drop 0 (List.take (Int.toNat (if (8) < (((List.length x0) : Nat) : Int) then (8) else (((List.length x0) : Nat) : Int))) x0))) ((List.drop 0 (List.take (Int.toNat (if (4) < (((List.length x2) : Nat) : Int) then (4) else (((List.length x2) : Nat) : Int))) x2))) (([] : List ((List UInt8) × (List UInt8)))) (([] : List ((List UInt8) × (List UInt8))))).2.2.1))) = true then
                                  if decide (List.length (List.take (List.length (dropG (List.take (List.length ((List.drop 0 (List.take (Int.toNat (if (8) < (((List.length x0) : Nat) : Int) then (8) else (((List.length x0) : Nat) : Int))) x0)))) (List.drop 0 ((List.drop 0 (List.take (Int.toNat (if (8) < (((List.length x0) : Nat) : Int) then (8) else (((List.length x0) : Nat) : Int))) x0))))) (List.take (List.length ((List.drop 0 (List.take (Int.toNat (if (4) < (((List.length x2) : Nat) : Int) then (4) else (((List.length x2) : Nat) : Int))) x2)))) (List.drop 0 ((List.drop 0 (List.take (Int.toNat (if (4) < (((List.length x2) : Nat) : Int) then (4) else (((List.length x2) : Nat) : Int))) x2))))))) (List.drop 0 (dropG (List.take (List.length ((List.drop 0 (List.take (Int.toNat (if (8) < (((List.length x0) : Nat) : Int) then (8) else (((List.length x0) : Nat) : Int))) x0)))) (List.drop 0 ((List.drop 0 (List.take (Int.toNat (if (8) < (((List.length x0) : Nat) : Int) then (8) else (((List.length x0) : Nat) : Int))) x0))))) (List.take (List.length ((List.drop 0 (List.take (Int.toNat (if (4) < (((List.length x2) : Nat) : Int) then (4) else (((List.length x2) : Nat) : Int))) x2)))) (List.drop 0 ((List.drop 0 (List.take (Int.toNat (if (4) < (((List.length x2) : Nat) : Int) then (4) else (((List.length x2) : Nat) : Int))) x2)))))))) < 4611686018427387904) = true then
                                    if ((show List ((List UInt8) × (List UInt8)) from (List.take (List.length (dropG (List.take (List.length ((List.drop 0 (List.take (Int.toNat (if (8) < (((List.length x0) : Nat) : Int) then (8) else (((List.length x0) : Nat) : Int))) x0)))) (List.drop 0 ((List.drop 0 (List.take (Int.toNat (if (8) < (((List.length x0) : Nat) : Int) then (8) else (((List.length x0) : Nat) : Int))) x0))))) (List.take (List.length ((List.drop 0 (List.take (Int.toNat (if (4) < (((List.length x2) : Nat) : Int) then (4) else (((List.length x2) : Nat) : Int))) x2)))) (List.drop 0 ((List.drop 0 (List.take (Int.toNat (if (4) < (((List.length x2) : Nat) : Int) then (4) else (((List.length x2) : Nat) : Int))) x2))))))) (List.drop 0 (dropG (List.take (List.length ((List.drop 0 (List.take (Int.toNat (if (8) < (((List.length x0) : Nat) : Int) then (8) else (((List.length x0) : Nat) : Int))) x0)))) (List.drop 0 ((List.drop 0 (List.take (Int.toNat (if (8) < (((List.length x0) : Nat) : Int) then (8) else (((List.length x0) : Nat) : Int))) x0))))) (List.take (List.length ((List.drop 0 (List.take (Int.toNat (if (4) < (((List.length x2) : Nat) : Int) then (4) else (((List.length x2) : Nat) : Int))) x2)))) (List.drop 0 ((List.drop 0 (List.take (Int.toNat (if (4) < (((List.length x2) : Nat) : Int) then (4) else (((List.length x2) : Nat) : Int))) x2))))))))) == (List.take (List.length (l6_0R m (m + 24) x1 ((((0 + (List.length (List.drop 0 (List.take (Int.toNat (if (8) < (((List.length x0) : Nat) : Int) then (8) else (((List.length x0) : Nat) : Int))) x0)))) : Nat) : Int)) 0 ((List.drop 0 (List.take (Int.toNat (if (8) < (((List.length x0) : Nat) : Int) then (8) else (((List.length x0) : Nat) : Int))) x0))) ((List.drop 0 (List.take (Int.toNat (if (4) < (((List.length x2) : Nat) : Int) then (4) else (((List.length x2) : Nat) : Int))) x2))) (([] : List ((List UInt8) × (List UInt8)))) (([] : List ((List UInt8) × (List UInt8))))).2.2.2) (List.drop 0 (l6_0R m (m + 24) x1 ((((0 + (List.length (List.drop 0 (List.take (Int.toNat (if (8) < (((List.length x0) : Nat) : Int) then (8) else (((List.length x0) : Nat) : Int))) x0)))) : Nat) : Int)) 0 ((List.drop 0 (List.take (Int.toNat (if (8) < (((List.length x0) : Nat) : Int) then (8) else (((List.length x0) : Nat) : Int))) x0))) ((List.drop 0 (List.take (Int.toNat (if (4) < (((List.length x2) : Nat) : Int) then (4) else (((List.length x2) : Nat) : Int))) x2))) (([] : List ((List UInt8) × (List UInt8)))) (([] : List ((List UInt8) × (List UInt8))))).2.2.2))) = true then
                                      if decide (List.length x1 ≤ 9223372036854775807) = true then
                                        if ((wordG x1) == (lrightG [(x1, ([120] : List UInt8))])) = true then
                                          if decide (List.length x1 ≤ 2000000) = true then
                                            if ((quoteG x1) == (quoteG x1)) = true then
                                              if decide (List.length (roomyG (List.take (List.length ((List.drop 0 (List.take (Int.toNat (if (8) < (((List.length x0) : Nat) : Int) then (8) else (((List.length x0) : Nat) : Int))) x0)))) (List.drop 0 ((List.drop 0 (List.take (Int.toNat (if (8) < (((List.length x0) : Nat) : Int) then (8) else (((List.length x0) : Nat) : Int))) x0))))) (([113] : List UInt8), ([] : List UInt8))) ≤ 1000000 ∧ List.length (List.take (List.length ((List.drop 0 (List.take (Int.toNat (if (8) < (((List.length x0) : Nat) : Int) then (8) else (((List.length x0) : Nat) : Int))) x0)))) (List.drop 0 ((List.drop 0 (List.take (Int.toNat (if (8) < (((List.length x0) : Nat) : Int) then (8) else (((List.length x0) : Nat) : Int))) x0))))) ≤ 1000000) = true then
                                                if (intactG (roomyG (List.take (List.length ((List.drop 0 (List.take (Int.toNat (if (8) < (((List.length x0) : Nat) : Int) then (8) else (((List.length x0) : Nat) : Int))) x0)))) (List.drop 0 ((List.drop 0 (List.take (Int.toNat (if (8) < (((List.length x0) : Nat) : Int) then (8) else (((List.length x0) : Nat) : Int))) x0))))) (([113] : List UInt8), ([] : List UInt8))) (List.take (List.length ((List.drop 0 (List.take (Int.toNat (if (8) < (((List.length x0) : Nat) : Int) then (8) else (((List.length x0) : Nat) : Int))) x0)))) (List.drop 0 ((List.drop 0 (List.take (Int.toNat (if (8) < (((List.length x0) : Nat) : Int) then (8) else (((List.length x0) : Nat) : Int))) x0))))) (([113] : List UInt8), ([] : List UInt8))) = true then
                                                  some ()
                                                else
                                                  none
                                              else
                                                none
                                            else
                                              none
                                          else
                                            none
                                        else
                                          none
                                      else
                                        none
                                    else
                                      none
                                  else
                                    none
                                else
                                  none
                              else
                                none
                            else
                              none
                          else
                            none
                        else
                          none
                      else
                        none
                    else
                      none
                  else
                    none
                else
                  none
              else
                none
            else
              none
          else
            none
        else
          none
      else
        none
    else
      none
  else
    none

set_option maxHeartbeats 20000000 in
theorem ltells_w0 (m : Nat) (x0 : List ((List UInt8) × (List UInt8))) (x1 : List UInt8) (x2 : List (List UInt8)) (c0 : (decide (0 ≤ (if (8) < (((List.length x0) : Nat) : Int) then (8) else (((List.length x0) : Nat) : Int))) && decide ((if (8) < (((List.length x0) : Nat) : Int) then (8) else (((List.length x0) : Nat) : Int)) ≤ (((List.length x0) : Nat) : Int))) = true) (c1 : decide (((0 + (List.length (List.drop 0 (List.take (Int.toNat (if (8) < (((List.length x0) : Nat) : Int) then (8) else (((List.length x0) : Nat) : Int))) x0)))) * 32) ≤ 70368744177664) = true) (c3 : (decide (0 ≤ (if (4) < (((List.length x2) : Nat) : Int) then (4) else (((List.length x2) : Nat) : Int))) && decide ((if (4) < (((List.length x2) : Nat) : Int) then (4) else (((List.length x2) : Nat) : Int)) ≤ (((List.length x2) : Nat) : Int))) = true) (c4 : decide (((0 + (List.length (List.drop 0 (List.take (Int.toNat (if (4) < (((List.length x2) : Nat) : Int) then (4) else (((List.length x2) : Nat) : Int))) x2)))) * 16) ≤ 70368744177664) = true) (c6 : (Option.isSome (l6_0 m (m + 24) x1 ((((0 + (List.length (List.drop 0 (List.take (Int.toNat (if (8) < (((List.length x0) : Nat) : Int) then (8) else (((List.length x0) : Nat) : Int))) x0)))) : Nat) : Int)) 0 ((List.drop 0 (List.take (Int.toNat (if (8) < (((List.length x0) : Nat) : Int) then (8) else (((List.length x0) : Nat) : Int))) x0))) ((List.drop 0 (List.take (Int.toNat (if (4) < (((List.length x2) : Nat) : Int) then (4) else (((List.length x2) : Nat) : Int))) x2))) (([] : List ((List UInt8) × (List UInt8)))) (([] : List ((List UInt8) × (List UInt8)))))) = true) (c8 : decide (List.length (List.take (List.length ((List.drop 0 (List.take (Int.toNat (if (8) < (((List.length x0) : Nat) : Int) then (8) else (((List.length x0) : Nat) : Int))) x0)))) (List.drop 0 ((List.drop 0 (List.take (Int.toNat (if (8) < (((List.length x0) : Nat) : Int) then (8) else (((List.length x0) : Nat) : Int))) x0))))) ≤ 1000000) = true) (c10 : lrightPre [(x1, ([120] : List UInt8))] = true) (c12 : lrightPre (List.take (List.length ((List.drop 0 (List.take (Int.toNat (if (8) < (((List.length x0) : Nat) : Int) then (8) else (((List.length x0) : Nat) : Int))) x0)))) (List.drop 0 ((List.drop 0 (List.take (Int.toNat (if (8) < (((List.length x0) : Nat) : Int) then (8) else (((List.length x0) : Nat) : Int))) x0))))) = true) (c15 : ((lrightG (List.take (List.length ((List.drop 0 (List.take (Int.toNat (if (8) < (((List.length x0) : Nat) : Int) then (8) else (((List.length x0) : Nat) : Int))) x0)))) (List.drop 0 ((List.drop 0 (List.take (Int.toNat (if (8) < (((List.length x0) : Nat) : Int) then (8) else (((List.length x0) : Nat) : Int))) x0)))))) == (lrightG (List.take (List.length ((List.drop 0 (List.take (Int.toNat (if (8) < (((List.length x0) : Nat) : Int) then (8) else (((List.length x0) : Nat) : Int))) x0)))) (List.drop 0 ((List.drop 0 (List.take (Int.toNat (if (8) < (((List.length x0) : Nat) : Int) then (8) else (((List.length x0) : Nat) : Int))) x0))))))) = true) (c19 : (decide (0 ≤ (((List.length ((List.drop 0 (List.take (Int.toNat (if (8) < (((List.length x0) : Nat) : Int) then (8) else (((List.length x0) : Nat) : Int))) x0)))) : Nat) : Int)) && decide ((((List.length ((List.drop 0 (List.take (Int.toNat (if (8) < (((List.length x0) : Nat) : Int) then (8) else (((List.length x0) : Nat) : Int))) x0)))) : Nat) : Int) ≤ (((List.length (roomyG (List.take (List.length ((List.drop 0 (List.take (Int.toNat (if (8) < (((List.length x0) : Nat) : Int) then (8) else (((List.length x0) : Nat) : Int))) x0)))) (List.drop 0 ((List.drop 0 (List.take (Int.toNat (if (8) < (((List.length x0) : Nat) : Int) then (8) else (((List.length x0) : Nat) : Int))) x0))))) (([113] : List UInt8), ([] : List UInt8)))) : Nat) : Int))) = true) (c21 : lrightPre (List.drop 0 (List.take (Int.toNat (((List.length ((List.drop 0 (List.take (Int.toNat (if (8) < (((List.length x0) : Nat) : Int) then (8) else (((List.length x0) : Nat) : Int))) x0)))) : Nat) : Int)) (roomyG (List.take (List.length ((List.drop 0 (List.take (Int.toNat (if (8) < (((List.length x0) : Nat) : Int) then (8) else (((List.length x0) : Nat) : Int))) x0)))) (List.drop 0 ((List.drop 0 (List.take (Int.toNat (if (8) < (((List.length x0) : Nat) : Int) then (8) else (((List.length x0) : Nat) : Int))) x0))))) (([113] : List UInt8), ([] : List UInt8))))) = true) (c28 : ((lprintG (List.drop 0 (List.take (Int.toNat (((List.length ((List.drop 0 (List.take (Int.toNat (if (8) < (((List.length x0) : Nat) : Int) then (8) else (((List.length x0) : Nat) : Int))) x0)))) : Nat) : Int)) (roomyG (List.take (List.length ((List.drop 0 (List.take (Int.toNat (if (8) < (((List.length x0) : Nat) : Int) then (8) else (((List.length x0) : Nat) : Int))) x0)))) (List.drop 0 ((List.drop 0 (List.take (Int.toNat (if (8) < (((List.length x0) : Nat) : Int) then (8) else (((List.length x0) : Nat) : Int))) x0))))) (([113] : List UInt8), ([] : List UInt8)))))) == (lprintG (List.take (List.length ((List.drop 0 (List.take (Int.toNat (if (8) < (((List.length x0) : Nat) : Int) then (8) else (((List.length x0) : Nat) : Int))) x0)))) (List.drop 0 ((List.drop 0 (List.take (Int.toNat (if (8) < (((List.length x0) : Nat) : Int) then (8) else (((List.length x0) : Nat) : Int))) x0))))))) = true) (c40 : ((getG (List.take (List.length ((List.drop 0 (List.take (Int.toNat (if (8) < (((List.length x0) : Nat) : Int) then (8) else (((List.length x0) : Nat) : Int))) x0)))) (List.drop 0 ((List.drop 0 (List.take (Int.toNat (if (8) < (((List.length x0) : Nat) : Int) then (8) else (((List.length x0) : Nat) : Int))) x0))))) x1) == (getG (List.take (List.length ((List.drop 0 (List.take (Int.toNat (if (8) < (((List.length x0) : Nat) : Int) then (8) else (((List.length x0) : Nat) : Int))) x0)))) (List.drop 0 ((List.drop 0 (List.take (Int.toNat (if (8) < (((List.length x0) : Nat) : Int) then (8) else (((List.length x0) : Nat) : Int))) x0))))) x1)) = true) (c45 : keepPre (List.take (List.length ((List.drop 0 (List.take (Int.toNat (if (8) < (((List.length x0) : Nat) : Int) then (8) else (((List.length x0) : Nat) : Int))) x0)))) (List.drop 0 ((List.drop 0 (List.take (Int.toNat (if (8) < (((List.length x0) : Nat) : Int) then (8) else (((List.length x0) : Nat) : Int))) x0))))) (List.take (List.length ((List.drop 0 (List.take (Int.toNat (if (4) < (((List.length x2) : Nat) : Int) then (4) else (((List.length x2) : Nat) : Int))) x2)))) (List.drop 0 ((List.drop 0 (List.take (Int.toNat (if (4) < (((List.length x2) : Nat) : Int) then (4) else (((List.length x2) : Nat) : Int))) x2))))) = true) (c49 : decide (List.length (keepG (List.take (List.length ((List.drop 0 (List.take (Int.toNat (if (8) < (((List.length x0) : Nat) : Int) then (8) else (((List.length x0) : Nat) : Int))) x0)))) (List.drop 0 ((List.drop 0 (List.take (Int.toNat (if (8) < (((List.length x0) : Nat) : Int) then (8) else (((List.length x0) : Nat) : Int))) x0))))) (List.take (List.length ((List.drop 0 (List.take (Int.toNat (if (4) < (((List.length x2) : Nat) : Int) then (4) else (((List.length x2) : Nat) : Int))) x2)))) (List.drop 0 ((List.drop 0 (List.take (Int.toNat (if (4) < (((List.length x2) : Nat) : Int) then (4) else (((List.length x2) : Nat) : Int))) x2)))))) < 4611686018427387904) = true) (c51 : ((show List ((List UInt8) × (List UInt8)) from (keepG (List.take (List.length ((List.drop 0 (List.take (Int.toNat (if (8) < (((List.length x0) : Nat) : Int) then (8) else (((List.length x0) : Nat) : Int))) x0)))) (List.drop 0 ((List.drop 0 (List.take (Int.toNat (if (8) < (((List.length x0) : Nat) : Int) then (8) else (((List.length x0) : Nat) : Int))) x0))))) (List.take (List.length ((List.drop 0 (List.take (Int.toNat (if (4) < (((List.length x2) : Nat) : Int) then (4) else (((List.length x2) : Nat) : Int))) x2)))) (List.drop 0 ((List.drop 0 (List.take (Int.toNat (if (4) < (((List.length x2) : Nat) : Int) then (4) else (((List.length x2) : Nat) : Int))) x2))))))) == (List.take (List.length (l6_0R m (m + 24) x1 ((((0 + (List.length (List.drop 0 (List.take (Int.toNat (if (8) < (((List.length x0) : Nat) : Int) then (8) else (((List.length x0) : Nat) : Int))) x0)))) : Nat) : Int)) 0 ((List.drop 0 (List.take (Int.toNat (if (8) < (((List.length x0) : Nat) : Int) then (8) else (((List.length x0) : Nat) : Int))) x0))) ((List.drop 0 (List.take (Int.toNat (if (4) < (((List.length x2) : Nat) : Int) then (4) else (((List.length x2) : Nat) : Int))) x2))) (([] : List ((List UInt8) × (List UInt8)))) (([] : List ((List UInt8) × (List UInt8))))).2.2.1) (List.drop 0 (l6_0R m (m + 24) x1 ((((0 + (List.length (List.drop 0 (List.take (Int.toNat (if (8) < (((List.length x0) : Nat) : Int) then (8) else (((List.length x0) : Nat) : Int))) x0)))) : Nat) : Int)) 0 ((List.drop 0 (List.take (Int.toNat (if (8) < (((List.length x0) : Nat) : Int) then (8) else (((List.length x0) : Nat) : Int))) x0))) ((List.drop 0 (List.take (Int.toNat (if (4) < (((List.length x2) : Nat) : Int) then (4) else (((List.length x2) : Nat) : Int))) x2))) (([] : List ((List UInt8) × (List UInt8)))) (([] : List ((List UInt8) × (List UInt8))))).2.2.1))) = true) (c61 : decide (List.length (List.take (List.length (dropG (List.take (List.length ((List.drop 0 (List.take (Int.toNat (if (8) < (((List.length x0) : Nat) : Int) then (8) else (((List.length x0) : Nat) : Int))) x0)))) (List.drop 0 ((List.drop 0 (List.take (Int.toNat (if (8) < (((List.length x0) : Nat) : Int) then (8) else (((List.length x0) : Nat) : Int))) x0))))) (List.take (List.length ((List.drop 0 (List.take (Int.toNat (if (4) < (((List.length x2) : Nat) : Int) then (4) else (((List.length x2) : Nat) : Int))) x2)))) (List.drop 0 ((List.drop 0 (List.take (Int.toNat (if (4) < (((List.length x2) : Nat) : Int) then (4) else (((List.length x2) : Nat) : Int))) x2))))))) (List.drop 0 (dropG (List.take (List.length ((List.drop 0 (List.take (Int.toNat (if (8) < (((List.length x0) : Nat) : Int) then (8) else (((List.length x0) : Nat) : Int))) x0)))) (List.drop 0 ((List.drop 0 (List.take (Int.toNat (if (8) < (((List.length x0) : Nat) : Int) then (8) else (((List.length x0) : Nat) : Int))) x0))))) (List.take (List.length ((List.drop 0 (List.take (Int.toNat (if (4) < (((List.length x2) : Nat) : Int) then (4) else (((List.length x2) : Nat) : Int))) x2)))) (List.drop 0 ((List.drop 0 (List.take (Int.toNat (if (4) < (((List.length x2) : Nat) : Int) then (4) else (((List.length x2) : Nat) : Int))) x2)))))))) < 4611686018427387904) = true) (c63 : ((show List ((List UInt8) × (List UInt8)) from (List.take (List.length (dropG (List.take (List.length ((List.drop 0 (List.take (Int.toNat (if (8) < (((List.length x0) : Nat) : Int) then (8) else (((List.length x0) : Nat) : Int))) x0)))) (List.drop 0 ((List.drop 0 (List.take (Int.toNat (if (8) < (((List.length x0) : Nat) : Int) then (8) else (((List.length x0) : Nat) : Int))) x0))))) (List.take (List.length ((List.drop 0 (List.take (Int.toNat (if (4) < (((List.length x2) : Nat) : Int) then (4) else (((List.length x2) : Nat) : Int))) x2)))) (List.drop 0 ((List.drop 0 (List.take (Int.toNat (if (4) < (((List.length x2) : Nat) : Int) then (4) else (((List.length x2) : Nat) : Int))) x2))))))) (List.drop 0 (dropG (List.take (List.length ((List.drop 0 (List.take (Int.toNat (if (8) < (((List.length x0) : Nat) : Int) then (8) else (((List.length x0) : Nat) : Int))) x0)))) (List.drop 0 ((List.drop 0 (List.take (Int.toNat (if (8) < (((List.length x0) : Nat) : Int) then (8) else (((List.length x0) : Nat) : Int))) x0))))) (List.take (List.length ((List.drop 0 (List.take (Int.toNat (if (4) < (((List.length x2) : Nat) : Int) then (4) else (((List.length x2) : Nat) : Int))) x2)))) (List.drop 0 ((List.drop 0 (List.take (Int.toNat (if (4) < (((List.length x2) : Nat) : Int) then (4) else (((List.length x2) : Nat) : Int))) x2))))))))) == (List.take (List.length (l6_0R m (m + 24) x1 ((((0 + (List.length (List.drop 0 (List.take (Int.toNat (if (8) < (((List.length x0) : Nat) : Int) then (8) else (((List.length x0) : Nat) : Int))) x0)))) : Nat) : Int)) 0 ((List.drop 0 (List.take (Int.toNat (if (8) < (((List.length x0) : Nat) : Int) then (8) else (((List.length x0) : Nat) : Int))) x0))) ((List.drop 0 (List.take (Int.toNat (if (4) < (((List.length x2) : Nat) : Int) then (4) else (((List.length x2) : Nat) : Int))) x2))) (([] : List ((List UInt8) × (List UInt8)))) (([] : List ((List UInt8) × (List UInt8))))).2.2.2) (List.drop 0 (l6_0R m (m + 24) x1 ((((0 + (List.length (List.drop 0 (List.take (Int.toNat (if (8) < (((List.length x0) : Nat) : Int) then (8) else (((List.length x0) : Nat) : Int))) x0)))) : Nat) : Int)) 0 ((List.drop 0 (List.take (Int.toNat (if (8) < (((List.length x0) : Nat) : Int) then (8) else (((List.length x0) : Nat) : Int))) x0))) ((List.drop 0 (List.take (Int.toNat (if (4) < (((List.length x2) : Nat) : Int) then (4) else (((List.length x2) : Nat) : Int))) x2))) (([] : List ((List UInt8) × (List UInt8)))) (([] : List ((List UInt8) × (List UInt8))))).2.2.2))) = true) (c65 : decide (List.length x1 ≤ 9223372036854775807) = true) (c69 : ((wordG x1) == (lrightG [(x1, ([120] : List UInt8))])) = true) (c71 : decide (List.length x1 ≤ 2000000) = true) (c77 : ((quoteG x1) == (quoteG x1)) = true) (c82 : decide (List.length (roomyG (List.take (List.length ((List.drop 0 (List.take (Int.toNat (if (8) < (((List.length x0) : Nat) : Int) then (8) else (((List.length x0) : Nat) : Int))) x0)))) (List.drop 0 ((List.drop 0 (List.take (Int.toNat (if (8) < (((List.length x0) : Nat) : Int) then (8) else (((List.length x0) : Nat) : Int))) x0))))) (([113] : List UInt8), ([] : List UInt8))) ≤ 1000000 ∧ List.length (List.take (List.length ((List.drop 0 (List.take (Int.toNat (if (8) < (((List.length x0) : Nat) : Int) then (8) else (((List.length x0) : Nat) : Int))) x0)))) (List.drop 0 ((List.drop 0 (List.take (Int.toNat (if (8) < (((List.length x0) : Nat) : Int) then (8) else (((List.length x0) : Nat) : Int))) x0))))) ≤ 1000000) = true) (c84 : (intactG (roomyG (List.take (List.length ((List.drop 0 (List.take (Int.toNat (if (8) < (((List.length x0) : Nat) : Int) then (8) else (((List.length x0) : Nat) : Int))) x0)))) (List.drop 0 ((List.drop 0 (List.take (Int.toNat (if (8) < (((List.length x0) : Nat) : Int) then (8) else (((List.length x0) : Nat) : Int))) x0))))) (([113] : List UInt8), ([] : List UInt8))) (List.take (List.length ((List.drop 0 (List.take (Int.toNat (if (8) < (((List.length x0) : Nat) : Int) then (8) else (((List.length x0) : Nat) : Int))) x0)))) (List.drop 0 ((List.drop 0 (List.take (Int.toNat (if (8) < (((List.length x0) : Nat) : Int) then (8) else (((List.length x0) : Nat) : Int))) x0))))) (([113] : List UInt8), ([] : List UInt8))) = true) : (evCall F S28 (m + 25) 6 [(.d (.sl (.pair .str .str) x0)), (.d (.str x1)), (.d (.sl .str x2))] []).run = some (.d (.bool true), []) := by
  refine runT_ok (LS := (fun k => if k = 30064772994 then some (l6_0E x1 (((((0 + (List.length (List.drop 0 (List.take (Int.toNat (if (8) < (((List.length x0) : Nat) : Int) then (8) else (((List.length x0) : Nat) : Int))) x0)))) : Nat) : Int))) ((l6_0R m (m + 24) x1 ((((0 + (List.length (List.drop 0 (List.take (Int.toNat (if (8) < (((List.length x0) : Nat) : Int) then (8) else (((List.length x0) : Nat) : Int))) x0)))) : Nat) : Int)) 0 ((List.drop 0 (List.take (Int.toNat (if (8) < (((List.length x0) : Nat) : Int) then (8) else (((List.length x0) : Nat) : Int))) x0))) ((List.drop 0 (List.take (Int.toNat (if (4) < (((List.length x2) : Nat) : Int) then (4) else (((List.length x2) : Nat) : Int))) x2))) (([] : List ((List UInt8) × (List UInt8)))) (([] : List ((List UInt8) × (List UInt8))))).2.1) (((List.drop 0 (List.take (Int.toNat (if (8) < (((List.length x0) : Nat) : Int) then (8) else (((List.length x0) : Nat) : Int))) x0)))) (((List.drop 0 (List.take (Int.toNat (if (4) < (((List.length x2) : Nat) : Int) then (4) else (((List.length x2) : Nat) : Int))) x2)))) ((l6_0R m (m + 24) x1 ((((0 + (List.length (List.drop 0 (List.take (Int.toNat (if (8) < (((List.length x0) : Nat) : Int) then (8) else (((List.length x0) : Nat) : Int))) x0)))) : Nat) : Int)) 0 ((List.drop 0 (List.take (Int.toNat (if (8) < (((List.length x0) : Nat) : Int) then (8) else (((List.length x0) : Nat) : Int))) x0))) ((List.drop 0 (List.take (Int.toNat (if (4) < (((List.length x2) : Nat) : Int) then (4) else (((List.length x2) : Nat) : Int))) x2))) (([] : List ((List UInt8) × (List UInt8)))) (([] : List ((List UInt8) × (List UInt8))))).2.2.1) ((l6_0R m (m + 24) x1 ((((0 + (List.length (List.drop 0 (List.take (Int.toNat (if (8) < (((List.length x0) : Nat) : Int) then (8) else (((List.length x0) : Nat) : Int))) x0)))) : Nat) : Int)) 0 ((List.drop 0 (List.take (Int.toNat (if (8) < (((List.length x0) : Nat) : Int) then (8) else (((List.length x0) : Nat) : Int))) x0))) ((List.drop 0 (List.take (Int.toNat (if (4) < (((List.length x2) : Nat) : Int) then (4) else (((List.length x2) : Nat) : Int))) x2))) (([] : List ((List UInt8) × (List UInt8)))) (([] : List ((List UInt8) × (List UInt8))))).2.2.2) 0) else none)) (fn := fn6) (r := .d (.bool true)) (B' := []) (vis := [(30064772994, [.top, (.d (.str x1)), .top, .top, .top, .top, .top, (.sr 0 0 (0 + (List.length (List.drop 0 (List.take (Int.toNat (if (8) < (((List.length x0) : Nat) : Int) then (8) else (((List.length x0) : Nat) : Int))) x0)))) 2 none), (.sr 1 0 (0 + (List.length (List.drop 0 (List.take (Int.toNat (if (4) < (((List.length x2) : Nat) : Int) then (4) else (((List.length x2) : Nat) : Int))) x2)))) 1 none), (.sr 2 0 0 2 none), (.sr 3 0 0 2 none), .top, .top, .top, .top, .top, .top, .top, .top, .top, .top, .top, .top, .top, .top, .top, .top, .top, .top, .top, .top, .top, (.sr 0 0 (0 + (List.length (List.drop 0 (List.take (Int.toNat (if (8) < (((List.length x0) : Nat) : Int) then (8) else (((List.length x0) : Nat) : Int))) x0)))) 2 none), (.d (.int .i64 (((0 + (List.length (List.drop 0 (List.take (Int.toNat (if (8) < (((List.length x0) : Nat) : Int) then (8) else (((List.length x0) : Nat) : Int))) x0)))) : Nat) : Int))), (.d (.int .i64 (0))), .top, .top, .top, .top, .top, .top, .top, .top, .top, .top, .top, .top, .top, .top, .top, .top, .top, .top, .top, .top, .top, .top, .top, .top, .top, .top, .top, .top, .top, .top, .top, .top, .top, .top, .top, .top, .top, .top, .top, .top, .top, .top, .top, .top, .top, .top, .top, .top, .top, .top, .top, .top, .top, .top, .top, .top, .top, .top, .top, .top, .top, .top, .top, .top, .top, .top, .top, .top, .top, .top, .top, .top, .top, .top, .top, .top, .top, .top, .top, .top, .top, .top, .top, .top, .top, .top, .top, .top, .top, .top, .top, .top, .top, .top], [(.arr (.pair .str .str) (List.drop 0 (List.take (Int.toNat (if (8) < (((List.length x0) : Nat) : Int) then (8) else (((List.length x0) : Nat) : Int))) x0)) true), (.arr .str (List.drop 0 (List.take (Int.toNat (if (4) < (((List.length x2) : Nat) : Int) then (4) else (((List.length x2) : Nat) : Int))) x2)) true), (.arr (.pair .str .str) ([] : List ((List UInt8) × (List UInt8))) true), (.arr (.pair .str .str) ([] : List ((List UInt8) × (List UInt8))) true)])]) (by kernel_rfl) rfl (by kernel_rfl) (M.run_of_path _ [true, true, true, true, true, true, true, true, true, true, true, true, true, true, true, true, true, true, true, true, true, true, true, true, true, true, true, true, true, true, true, true, true, true, true, true, true, true, true, true, true, true, true, true, true, true, true, true, true, true, true, true, true, true, true, true, true, true, true, true, true, true, true, true, true, true, true, true, true, true, true, true, true, true, true, true, true, true, true, true, true, true, true, true, true] _ _ (by kernel_rfl) (all_t c0 (all_t c1 (all_t rfl (all_t c3 (all_t c4 (all_t rfl (all_t (show decide ((0 + (List.length ((List.drop 0 (List.take (Int.toNat (if (8) < (((List.length x0) : Nat) : Int) then (8) else (((List.length x0) : Nat) : Int))) x0))))) ≤ (List.length ((List.drop 0 (List.take (Int.toNat (if (8) < (((List.length x0) : Nat) : Int) then (8) else (((List.length x0) : Nat) : Int))) x0))))) = true from decide_eq_true (Nat.le_of_eq (Nat.zero_add _))) (all_t c8 (all_t rfl (all_t c10 (all_t (show decide ((0 + (List.length ((List.drop 0 (List.take (Int.toNat (if (8) < (((List.length x0) : Nat) : Int) then (8) else (((List.length x0) : Nat) : Int))) x0))))) ≤ (List.length ((List.drop 0 (List.take (Int.toNat (if (8) < (((List.length x0) : Nat) : Int) then (8) else (((List.length x0) : Nat) : Int))) x0))))) = true from decide_eq_true (Nat.le_of_eq (Nat.zero_add _))) (all_t c12 (all_t (show decide ((0 + (List.length ((List.drop 0 (List.take (Int.toNat (if (8) < (((List.length x0) : Nat) : Int) then (8) else (((List.length x0) : Nat) : Int))) x0))))) ≤ (List.length ((List.drop 0 (List.take (Int.toNat (if (8) < (((List.length x0) : Nat) : Int) then (8) else (((List.length x0) : Nat) : Int))) x0))))) = true from decide_eq_true (Nat.le_of_eq (Nat.zero_add _))) (all_t c12 (all_t c15 (all_t c15 (all_t c15 (all_t c15 (all_t c19 (all_t c15 (all_t c21 (all_t c15 (all_t c15 (all_t (show decide ((0 + (List.length ((List.drop 0 (List.take (Int.toNat (if (8) < (((List.length x0) : Nat) : Int) then (8) else (((List.length x0) : Nat) : Int))) x0))))) ≤ (List.length ((List.drop 0 (List.take (Int.toNat (if (8) < (((List.length x0) : Nat) : Int) then (8) else (((List.length x0) : Nat) : Int))) x0))))) = true from decide_eq_true (Nat.le_of_eq (Nat.zero_add _))) (all_t c12 (all_t c15 (all_t c15 (all_t c28 (all_t c28 (all_t c28 (all_t (show decide ((0 + (List.length ((List.drop 0 (List.take (Int.toNat (if (8) < (((List.length x0) : Nat) : Int) then (8) else (((List.length x0) : Nat) : Int))) x0))))) ≤ (List.length ((List.drop 0 (List.take (Int.toNat (if (8) < (((List.length x0) : Nat) : Int) then (8) else (((List.length x0) : Nat) : Int))) x0))))) = true from decide_eq_true (Nat.le_of_eq (Nat.zero_add _))) (all_t c8 (all_t c28 (all_t c28 (all_t c28 (all_t (show decide ((0 + (List.length ((List.drop 0 (List.take (Int.toNat (if (8) < (((List.length x0) : Nat) : Int) then (8) else (((List.length x0) : Nat) : Int))) x0))))) ≤ (List.length ((List.drop 0 (List.take (Int.toNat (if (8) < (((List.length x0) : Nat) : Int) then (8) else (((List.length x0) : Nat) : Int))) x0))))) = true from decide_eq_true (Nat.le_of_eq (Nat.zero_add _))) (all_t c8 (all_t c28 (all_t c28 (all_t c40 (all_t c40 (all_t c40 (all_t (show decide ((0 + (List.length ((List.drop 0 (List.take (Int.toNat (if (8) < (((List.length x0) : Nat) : Int) then (8) else (((List.length x0) : Nat) : Int))) x0))))) ≤ (List.length ((List.drop 0 (List.take (Int.toNat (if (8) < (((List.length x0) : Nat) : Int) then (8) else (((List.length x0) : Nat) : Int))) x0))))) = true from decide_eq_true (Nat.le_of_eq (Nat.zero_add _))) (all_t (show decide ((0 + (List.length ((List.drop 0 (List.take (Int.toNat (if (4) < (((List.length x2) : Nat) : Int) then (4) else (((List.length x2) : Nat) : Int))) x2))))) ≤ (List.length ((List.drop 0 (List.take (Int.toNat (if (4) < (((List.length x2) : Nat) : Int) then (4) else (((List.length x2) : Nat) : Int))) x2))))) = true from decide_eq_true (Nat.le_of_eq (Nat.zero_add _))) (all_t c45 (all_t c40 (all_t c40 (all_t (show decide ((0 + (List.length (l6_0R m (m + 24) x1 ((((0 + (List.length (List.drop 0 (List.take (Int.toNat (if (8) < (((List.length x0) : Nat) : Int) then (8) else (((List.length x0) : Nat) : Int))) x0)))) : Nat) : Int)) 0 ((List.drop 0 (List.take (Int.toNat (if (8) < (((List.length x0) : Nat) : Int) then (8) else (((List.length x0) : Nat) : Int))) x0))) ((List.drop 0 (List.take (Int.toNat (if (4) < (((List.length x2) : Nat) : Int) then (4) else (((List.length x2) : Nat) : Int))) x2))) (([] : List ((List UInt8) × (List UInt8)))) (([] : List ((List UInt8) × (List UInt8))))).2.2.1)) ≤ (List.length (l6_0R m (m + 24) x1 ((((0 + (List.length (List.drop 0 (List.take (Int.toNat (if (8) < (((List.length x0) : Nat) : Int) then (8) else (((List.length x0) : Nat) : Int))) x0)))) : Nat) : Int)) 0 ((List.drop 0 (List.take (Int.toNat (if (8) < (((List.length x0) : Nat) : Int) then (8) else (((List.length x0) : Nat) : Int))) x0))) ((List.drop 0 (List.take (Int.toNat (if (4) < (((List.length x2) : Nat) : Int) then (4) else (((List.length x2) : Nat) : Int))) x2))) (([] : List ((List UInt8) × (List UInt8)))) (([] : List ((List UInt8) × (List UInt8))))).2.2.1)) = true from decide_eq_true (Nat.le_of_eq (Nat.zero_add _))) (all_t c49 (all_t c40 (all_t c51 (all_t c51 (all_t c51 (all_t (show decide ((0 + (List.length ((List.drop 0 (List.take (Int.toNat (if (8) < (((List.length x0) : Nat) : Int) then (8) else (((List.length x0) : Nat) : Int))) x0))))) ≤ (List.length ((List.drop 0 (List.take (Int.toNat (if (8) < (((List.length x0) : Nat) : Int) then (8) else (((List.length x0) : Nat) : Int))) x0))))) = true from decide_eq_true (Nat.le_of_eq (Nat.zero_add _))) (all_t (show decide ((0 + (List.length ((List.drop 0 (List.take (Int.toNat (if (4) < (((List.length x2) : Nat) : Int) then (4) else (((List.length x2) : Nat) : Int))) x2))))) ≤ (List.length ((List.drop 0 (List.take (Int.toNat (if (4) < (((List.length x2) : Nat) : Int) then (4) else (((List.length x2) : Nat) : Int))) x2))))) = true from decide_eq_true (Nat.le_of_eq (Nat.zero_add _))) (all_t c45 (all_t c51 (all_t c51 (all_t (show decide ((0 + (List.length (dropG (List.take (List.length ((List.drop 0 (List.take (Int.toNat (if (8) < (((List.length x0) : Nat) : Int) then (8) else (((List.length x0) : Nat) : Int))) x0)))) (List.drop 0 ((List.drop 0 (List.take (Int.toNat (if (8) < (((List.length x0) : Nat) : Int) then (8) else (((List.length x0) : Nat) : Int))) x0))))) (List.take (List.length ((List.drop 0 (List.take (Int.toNat (if (4) < (((List.length x2) : Nat) : Int) then (4) else (((List.length x2) : Nat) : Int))) x2)))) (List.drop 0 ((List.drop 0 (List.take (Int.toNat (if (4) < (((List.length x2) : Nat) : Int) then (4) else (((List.length x2) : Nat) : Int))) x2)))))))) ≤ (List.length (dropG (List.take (List.length ((List.drop 0 (List.take (Int.toNat (if (8) < (((List.length x0) : Nat) : Int) then (8) else (((List.length x0) : Nat) : Int))) x0)))) (List.drop 0 ((List.drop 0 (List.take (Int.toNat (if (8) < (((List.length x0) : Nat) : Int) then (8) else (((List.length x0) : Nat) : Int))) x0))))) (List.take (List.length ((List.drop 0 (List.take (Int.toNat (if (4) < (((List.length x2) : Nat) : Int) then (4) else (((List.length x2) : Nat) : Int))) x2)))) (List.drop 0 ((List.drop 0 (List.take (Int.toNat (if (4) < (((List.length x2) : Nat) : Int) then (4) else (((List.length x2) : Nat) : Int))) x2)))))))) = true from decide_eq_true (Nat.le_of_eq (Nat.zero_add _))) (all_t (show decide ((0 + (List.length (l6_0R m (m + 24) x1 ((((0 + (List.length (List.drop 0 (List.take (Int.toNat (if (8) < (((List.length x0) : Nat) : Int) then (8) else (((List.length x0) : Nat) : Int))) x0)))) : Nat) : Int)) 0 ((List.drop 0 (List.take (Int.toNat (if (8) < (((List.length x0) : Nat) : Int) then (8) else (((List.length x0) : Nat) : Int))) x0))) ((List.drop 0 (List.take (Int.toNat (if (4) < (((List.length x2) : Nat) : Int) then (4) else (((List.length x2) : Nat) : Int))) x2))) (([] : List ((List UInt8) × (List UInt8)))) (([] : List ((List UInt8) × (List UInt8))))).2.2.2)) ≤ (List.length (l6_0R m (m + 24) x1 ((((0 + (List.length (List.drop 0 (List.take (Int.toNat (if (8) < (((List.length x0) : Nat) : Int) then (8) else (((List.length x0) : Nat) : Int))) x0)))) : Nat) : Int)) 0 ((List.drop 0 (List.take (Int.toNat (if (8) < (((List.length x0) : Nat) : Int) then (8) else (((List.length x0) : Nat) : Int))) x0))) ((List.drop 0 (List.take (Int.toNat (if (4) < (((List.length x2) : Nat) : Int) then (4) else (((List.length x2) : Nat) : Int))) x2))) (([] : List ((List UInt8) × (List UInt8)))) (([] : List ((List UInt8) × (List UInt8))))).2.2.2)) = true from decide_eq_true (Nat.le_of_eq (Nat.zero_add _))) (all_t c61 (all_t c51 (all_t c63 (all_t c63 (all_t c65 (all_t c63 (all_t c63 (all_t c63 (all_t c69 (all_t c69 (all_t c71 (all_t c69 (all_t c69 (all_t c71 (all_t c69 (all_t c69 (all_t c77 (all_t c77 (all_t c77 (all_t c77 (all_t (show decide ((0 + (List.length ((List.drop 0 (List.take (Int.toNat (if (8) < (((List.length x0) : Nat) : Int) then (8) else (((List.length x0) : Nat) : Int))) x0))))) ≤ (List.length ((List.drop 0 (List.take (Int.toNat (if (8) < (((List.length x0) : Nat) : Int) then (8) else (((List.length x0) : Nat) : Int))) x0))))) = true from decide_eq_true (Nat.le_of_eq (Nat.zero_add _))) (all_t c82 (all_t c77 (all_t c84 (all_t c84 all_nil)))))))))))))))))))))))))))))))))))))))))))))))))))))))))))))))))))))))))))))))))))))) ?_
  intro p hp p2 hq
  rcases List.mem_cons.1 hp with rfl | hp
  · skip
    have h3 := l6_0_ok m (m + 24) x1 ((((0 + (List.length (List.drop 0 (List.take (Int.toNat (if (8) < (((List.length x0) : Nat) : Int) then (8) else (((List.length x0) : Nat) : Int))) x0)))) : Nat) : Int)) 0 ((List.drop 0 (List.take (Int.toNat (if (8) < (((List.length x0) : Nat) : Int) then (8) else (((List.length x0) : Nat) : Int))) x0))) ((List.drop 0 (List.take (Int.toNat (if (4) < (((List.length x2) : Nat) : Int) then (4) else (((List.length x2) : Nat) : Int))) x2))) (([] : List ((List UInt8) × (List UInt8)))) (([] : List ((List UInt8) × (List UInt8)))) _ (some_getD (d := l6_0D) c6)
    have h3 := turns_eq (e := [.top, (.d (.str x1)), .top, .top, .top, .top, .top, (.sr 0 0 (0 + (List.length (List.drop 0 (List.take (Int.toNat (if (8) < (((List.length x0) : Nat) : Int) then (8) else (((List.length x0) : Nat) : Int))) x0)))) 2 none), (.sr 1 0 (0 + (List.length (List.drop 0 (List.take (Int.toNat (if (4) < (((List.length x2) : Nat) : Int) then (4) else (((List.length x2) : Nat) : Int))) x2)))) 1 none), (.sr 2 0 0 2 none), (.sr 3 0 0 2 none), .top, .top, .top, .top, .top, .top, .top, .top, .top, .top, .top, .top, .top, .top, .top, .top, .top, .top, .top, .top, .top, (.sr 0 0 (0 + (List.length (List.drop 0 (List.take (Int.toNat (if (8) < (((List.length x0) : Nat) : Int) then (8) else (((List.length x0) : Nat) : Int))) x0)))) 2 none), (.d (.int .i64 (((0 + (List.length (List.drop 0 (List.take (Int.toNat (if (8) < (((List.length x0) : Nat) : Int) then (8) else (((List.length x0) : Nat) : Int))) x0)))) : Nat) : Int))), (.d (.int .i64 (0))), .top, .top, .top, .top, .top, .top, .top, .top, .top, .top, .top, .top, .top, .top, .top, .top, .top, .top, .top, .top, .top, .top, .top, .top, .top, .top, .top, .top, .top, .top, .top, .top, .top, .top, .top, .top, .top, .top, .top, .top, .top, .top, .top, .top, .top, .top, .top, .top, .top, .top, .top, .top, .top, .top, .top, .top, .top, .top, .top, .top, .top, .top, .top, .top, .top, .top, .top, .top, .top, .top, .top, .top, .top, .top, .top, .top, .top, .top, .top, .top, .top, .top, .top, .top, .top, .top, .top, .top, .top, .top, .top, .top, .top, .top]) (B := [(.arr (.pair .str .str) (List.drop 0 (List.take (Int.toNat (if (8) < (((List.length x0) : Nat) : Int) then (8) else (((List.length x0) : Nat) : Int))) x0)) true), (.arr .str (List.drop 0 (List.take (Int.toNat (if (4) < (((List.length x2) : Nat) : Int) then (4) else (((List.length x2) : Nat) : Int))) x2)) true), (.arr (.pair .str .str) ([] : List ((List UInt8) × (List UInt8))) true), (.arr (.pair .str .str) ([] : List ((List UInt8) × (List UInt8))) true)]) (by unfold l6_0H; (try rw [show (0 + (List.length (List.drop 0 (List.take (Int.toNat (if (8) < (((List.length x0) : Nat) : Int) then (8) else (((List.length x0) : Nat) : Int))) x0)))) = (List.length (List.drop 0 (List.take (Int.toNat (if (8) < (((List.length x0) : Nat) : Int) then (8) else (((List.length x0) : Nat) : Int))) x0))) from by simp]); (try rw [show (0 + (List.length (List.drop 0 (List.take (Int.toNat (if (4) < (((List.length x2) : Nat) : Int) then (4) else (((List.length x2) : Nat) : Int))) x2)))) = (List.length (List.drop 0 (List.take (Int.toNat (if (4) < (((List.length x2) : Nat) : Int) then (4) else (((List.length x2) : Nat) : Int))) x2))) from by simp]); (try simp only [Nat.zero_add, List.length_nil])) rfl h3
    exact Eq.trans (Eq.mp (by kernel_rfl) h3) hq
  cases hp

set_option maxHeartbeats 20000000 in
theorem ltells_ok (m : Nat) (x0 : List ((List UInt8) × (List UInt8))) (x1 : List UInt8) (x2 : List (List UInt8)) (q : Unit) (h : ltells m x0 x1 x2 = some q) : (evCall F S28 (m + 25) 6 [(.d (.sl (.pair .str .str) x0)), (.d (.str x1)), (.d (.sl .str x2))] []).run = some (.d (.bool true), []) := by
  unfold ltells at h
  refine ite_cases h (fun c0 h => ?_) (fun c0 h => ?_)
  · skip
    refine ite_cases h (fun c1 h => ?_) (fun c1 h => ?_)
    · skip
      refine ite_cases h (fun c3 h => ?_) (fun c3 h => ?_)
      · skip
        refine ite_cases h (fun c4 h => ?_) (fun c4 h => ?_)
        · skip
          refine ite_cases h (fun c6 h => ?_) (fun c6 h => ?_)
          · skip
            refine ite_cases h (fun c8 h => ?_) (fun c8 h => ?_)
            · skip
              refine ite_cases h (fun c10 h => ?_) (fun c10 h => ?_)
              · skip
                refine ite_cases h (fun c12 h => ?_) (fun c12 h => ?_)
                · skip
                  refine ite_cases h (fun c15 h => ?_) (fun c15 h => ?_)
                  · skip
                    refine ite_cases h (fun c19 h => ?_) (fun c19 h => ?_)
                    · skip
                      refine ite_cases h (fun c21 h => ?_) (fun c21 h => ?_)
                      · skip
                        refine ite_cases h (fun c28 h => ?_) (fun c28 h => ?_)
                        · skip
                          refine ite_cases h (fun c40 h => ?_) (fun c40 h => ?_)
                          · skip
                            refine ite_cases h (fun c45 h => ?_) (fun c45 h => ?_)
                            · skip
                              refine ite_cases h (fun c49 h => ?_) (fun c49 h => ?_)
                              · skip
                                refine ite_cases h (fun c51 h => ?_) (fun c51 h => ?_)
                                · skip
                                  refine ite_cases h (fun c61 h => ?_) (fun c61 h => ?_)
                                  · skip
                                    refine ite_cases h (fun c63 h => ?_) (fun c63 h => ?_)
                                    · skip
                                      refine ite_cases h (fun c65 h => ?_) (fun c65 h => ?_)
                                      · skip
                                        refine ite_cases h (fun c69 h => ?_) (fun c69 h => ?_)
                                        · skip
                                          refine ite_cases h (fun c71 h => ?_) (fun c71 h => ?_)
                                          · skip
                                            refine ite_cases h (fun c77 h => ?_) (fun c77 h => ?_)
                                            · skip
                                              refine ite_cases h (fun c82 h => ?_) (fun c82 h => ?_)
                                              · skip
                                                refine ite_cases h (fun c84 h => ?_) (fun c84 h => ?_)
                                                · skip
                                                  cases h
                                                  exact ltells_w0 m x0 x1 x2 c0 c1 c3 c4 c6 c8 c10 c12 c15 c19 c21 c28 c40 c45 c49 c51 c61 c63 c65 c69 c71 c77 c82 c84
                                                · skip
                                                  cases h
                                              · skip
                                                cases h
                                            · skip
                                              cases h
                                          · skip
                                            cases h
                                        · skip
                                          cases h
                                      · skip
                                        cases h
                                    · skip
                                      cases h
                                  · skip
                                    cases h
                                · skip
                                  cases h
                              · skip
                                cases h
                            · skip
                              cases h
                          · skip
                            cases h
                        · skip
                          cases h
                      · skip
                        cases h
                    · skip
                      cases h
                  · skip
                    cases h
                · skip
                  cases h
              · skip
                cases h
            · skip
              cases h
          · skip
            cases h
        · skip
          cases h
      · skip
        cases h
    · skip
      cases h
  · skip
    cases h
theorem ltells_at (x0 : List ((List UInt8) × (List UInt8))) (x1 : List UInt8) (x2 : List (List UInt8)) (h : ∃ m q, ltells m x0 x1 x2 = some q) : ∃ g B', CallAt Tryd.prog 6 g ∧ (g [(.d (.sl (.pair .str .str) x0)), (.d (.str x1)), (.d (.sl .str x2))] []).run = some (.d (.bool true), B') := by
  obtain ⟨m, q, h⟩ := h
  exact ⟨_, _, evCall_atH mixed kinds hds S28 S28_ok (m + 25) 6, ltells_ok m x0 x1 x2 q h⟩

end Go.Proofs.YtcdpgldecikejaaDoor.Dec
namespace Go.Proofs.YtcdpgldecikejaaDoor.Dec
open Go.Ev
set_option linter.unusedVariables false
set_option linter.unusedSimpArgs false
set_option maxRecDepth 100000
theorem any_contains (a : List UInt8) : ∀ ns : List (List UInt8), (ns.any fun y => y == a) = ns.contains a
  | [] => rfl
  | y :: ns => by
    rw [List.any_cons, List.contains_cons, any_contains a ns]
    congr 1
    rw [Bool.eq_iff_iff, beq_iff_eq, beq_iff_eq]
    exact ⟨fun h => h.symm, fun h => h.symm⟩
theorem in_loop (m : Nat) (x1 : List UInt8) (s33 s34 : Int) (b0 b2 b3 : LB) (ns : List (List UInt8)) (x : (List UInt8) × (List UInt8)) (hb : ns.length ≤ 1000) : ∀ (n k : Nat) (acc : Bool), k ≤ ns.length → ns.length - k < n → ∃ j, l6_1 m n x1 s33 s34 b0 ns b2 b3 acc ((ns.length : Nat) : Int) ((k : Nat) : Int) x = some (0, (acc || (ns.drop k).contains x.1), j)
  | 0, k, _, _, h => by omega
  | n + 1, k, acc, h1, h2 => by
    rw [l6_1]
    by_cases hk : k < ns.length
    · have e1 : decide (((k : Nat) : Int) < (((List.length ns) : Nat) : Int)) = true := decide_eq_true (by omega)
      have e2 : decide ((0 : Int) ≤ ((k : Nat) : Int)) = true := decide_eq_true (by omega)
      have e3 : decide (0 + k < List.length ns) = true := decide_eq_true (by omega)
      have e7 : IntKind.wrap .i64 (((k : Nat) : Int) + (1)) = ((k + 1 : Nat) : Int) := by rw [wrap_id (by omega) (by omega)]; rfl
      have go := fun acc => in_loop m x1 s33 s34 b0 b2 b3 ns x hb n (k + 1) acc (by omega) (by omega)
      rw [drop_getD ns k ([] : List UInt8) hk, List.contains_cons, e7, show Int.toNat ((k : Nat) : Int) = k from rfl, if_pos e1, if_pos e2, if_pos e1, if_pos e3, Nat.zero_add]
      cases acc with
      | true =>
        obtain ⟨j, hj⟩ := go true
        exact ⟨j, by rw [if_pos rfl, hj, Bool.true_or, Bool.true_or]⟩
      | false =>
        obtain ⟨j, hj⟩ := go (List.getD ns k ([] : List UInt8) == x.1)
        refine ⟨j, ?_⟩
        rw [if_neg (by decide), hj, Bool.false_or]
        have : (List.getD ns k ([] : List UInt8) == x.1) = (x.1 == List.getD ns k ([] : List UInt8)) := by
          rw [Bool.eq_iff_iff, beq_iff_eq, beq_iff_eq]
          exact ⟨fun h => h.symm, fun h => h.symm⟩
        rw [this]
    · have e1 : decide (((k : Nat) : Int) < (((List.length ns) : Nat) : Int)) = false := decide_eq_false (by omega)
      rw [e1, if_neg (by decide), List.drop_eq_nil_of_le (by omega)]
      exact ⟨_, by rw [List.contains_nil, Bool.or_false]⟩
theorem part_loop (m : Nat) (x1 : List UInt8) (own : LB) (ns : List (List UInt8)) (hm : ns.length ≤ m) (hn : ns.length ≤ 1000) (hb : own.length ≤ 1000) : ∀ (n k : Nat) (b2 b3 : LB), k ≤ own.length → own.length - k < n → b2.length ≤ k → b3.length ≤ k → ∃ j, l6_0 m n x1 ((own.length : Nat) : Int) ((k : Nat) : Int) own ns b2 b3 = some (0, j, b2 ++ keepG (own.drop k) ns, b3 ++ dropG (own.drop k) ns)
  | 0, k, _, _, _, h, _, _ => by omega
  | n + 1, k, b2, b3, h1, h2, h3, h4 => by
    rw [l6_0]
    by_cases hk : k < own.length
    · have e1 : decide (((k : Nat) : Int) < (((List.length own) : Nat) : Int)) = true := decide_eq_true (by omega)
      have e2 : decide ((0 : Int) ≤ ((k : Nat) : Int)) = true := decide_eq_true (by omega)
      have e3 : decide (0 + k < List.length own) = true := decide_eq_true (by omega)
      have e4 : decide ((((List.length b2) + 1) * 32) ≤ 70368744177664) = true := decide_eq_true (by omega)
      have e5 : decide ((((List.length b3) + 1) * 32) ≤ 70368744177664) = true := decide_eq_true (by omega)
      have e7 : IntKind.wrap .i64 (((k : Nat) : Int) + (1)) = ((k + 1 : Nat) : Int) := by rw [wrap_id (by omega) (by omega)]; rfl
      obtain ⟨j, hj⟩ := in_loop m x1 ((own.length : Nat) : Int) ((k : Nat) : Int) own b2 b3 ns (List.getD own k (([] : List UInt8), ([] : List UInt8))) hn (m + 24) 0 false (by omega) (by omega)
      rw [Int.natCast_zero, List.drop_zero, Bool.false_or] at hj
      have go := fun b2 b3 x y => part_loop m x1 own ns hm hn hb n (k + 1) b2 b3 (by omega) (by omega) x y
      unfold keepG dropG at *
      rw [drop_getD own k (([] : List UInt8), ([] : List UInt8)) hk, List.filter_cons, List.filter_cons, e7, show Int.toNat ((k : Nat) : Int) = k from rfl, if_pos e1, if_pos e2, if_pos e1, if_pos e3, Nat.zero_add]
      simp only [l6_1R, hj, Option.isSome_some, Option.getD_some, ↓reduceIte]
      cases hc : ns.contains (List.getD own k (([] : List UInt8), ([] : List UInt8))).1 with
      | true =>
        obtain ⟨j', hj'⟩ := go (b2 ++ [List.getD own k (([] : List UInt8), ([] : List UInt8))]) b3 (by rw [List.length_append, List.length_singleton]; omega) (by omega)
        refine ⟨j', ?_⟩
        rw [if_pos rfl, if_pos e4, hj', List.append_assoc]
        rfl
      | false =>
        obtain ⟨j', hj'⟩ := go b2 (b3 ++ [List.getD own k (([] : List UInt8), ([] : List UInt8))]) (by omega) (by rw [List.length_append, List.length_singleton]; omega)
        refine ⟨j', ?_⟩
        rw [if_neg (by decide), if_pos e5, hj', List.append_assoc]
        rfl
    · have e1 : decide (((k : Nat) : Int) < (((List.length own) : Nat) : Int)) = false := decide_eq_false (by omega)
      rw [e1, if_neg (by decide), List.drop_eq_nil_of_le (by omega)]
      exact ⟨_, by unfold keepG dropG; rw [List.filter_nil, List.filter_nil, List.append_nil, List.append_nil]⟩
theorem word_one (x : List UInt8) : lrightG [(x, ([120] : List UInt8))] = wordG x := by
  unfold lrightG lab1 lrise
  simp
theorem ltells_pure (x0 : LB) (x1 : List UInt8) (x2 : List (List UInt8)) (h0 : ∀ x ∈ x0, x.1.length ≤ 9223372036854775807) (h1 : x1.length ≤ 1048576) : ∃ m q, ltells m x0 x1 x2 = some q := by
  refine ⟨100, (), ?_⟩
  unfold ltells
  skip
  have c2 : (decide (0 ≤ (if (8) < (((List.length x0) : Nat) : Int) then (8) else (((List.length x0) : Nat) : Int))) && decide ((if (8) < (((List.length x0) : Nat) : Int) then (8) else (((List.length x0) : Nat) : Int)) ≤ (((List.length x0) : Nat) : Int))) = true := by
    split <;> simp <;> omega
  have c3 : (decide (0 ≤ (if (4) < (((List.length x2) : Nat) : Int) then (4) else (((List.length x2) : Nat) : Int))) && decide ((if (4) < (((List.length x2) : Nat) : Int) then (4) else (((List.length x2) : Nat) : Int)) ≤ (((List.length x2) : Nat) : Int))) = true := by
    split <;> simp <;> omega
  have hO : List.drop 0 (List.take (Int.toNat (if (8) < (((List.length x0) : Nat) : Int) then (8) else (((List.length x0) : Nat) : Int))) x0) = x0.take 8 := by
    rw [List.drop_zero]
    split
    · rfl
    · rw [Int.toNat_natCast, List.take_length, List.take_of_length_le (by omega)]
  have hS : List.drop 0 (List.take (Int.toNat (if (4) < (((List.length x2) : Nat) : Int) then (4) else (((List.length x2) : Nat) : Int))) x2) = x2.take 4 := by
    rw [List.drop_zero]
    split
    · rfl
    · rw [Int.toNat_natCast, List.take_length, List.take_of_length_le (by omega)]
  have hOl : (x0.take 8).length ≤ 8 := by rw [List.length_take]; omega
  have hSl : (x2.take 4).length ≤ 4 := by rw [List.length_take]; omega
  have hOx : ∀ x ∈ x0.take 8, x.1.length ≤ 9223372036854775807 := fun x h => h0 x (List.mem_of_mem_take h)
  rw [hO, hS, c2, c3, if_pos rfl, if_pos rfl]
  generalize x0.take 8 = own at *
  generalize x2.take 4 = ns at *
  obtain ⟨j, hj⟩ := part_loop 100 x1 own ns (by omega) (by omega) (by omega) (100 + 24) 0 [] [] (by omega) (by omega) (by simp) (by simp)
  rw [Int.natCast_zero, List.drop_zero, List.nil_append, List.nil_append] at hj
  have z2 : 0 + own.length = own.length := by omega
  have z3 : 0 + ns.length = ns.length := by omega
  have t1 : decide ((List.length own * 32) ≤ 70368744177664) = true := decide_eq_true (by omega)
  have t2 : decide ((List.length ns * 16) ≤ 70368744177664) = true := decide_eq_true (by omega)
  have t3 : decide (List.length own ≤ 1000000) = true := decide_eq_true (by omega)
  have t4 : lrightPre own = true := decide_eq_true ⟨by omega, hOx⟩
  have t5 : lrightPre [(x1, ([120] : List UInt8))] = true := decide_eq_true ⟨by simp, fun z hz => by rw [List.mem_singleton] at hz; rw [hz]; show x1.length ≤ _; omega⟩
  have hF : List.take (List.length own) (roomyG own (([113] : List UInt8), ([] : List UInt8))) = own := by
    unfold roomyG
    rw [List.take_append_of_le_length (Nat.le_refl _), List.take_length]
  have hFl : (roomyG own (([113] : List UInt8), ([] : List UInt8))).length = own.length + 80 := by unfold roomyG; rw [List.length_append, List.length_replicate]
  have hI : intactG (roomyG own (([113] : List UInt8), ([] : List UInt8))) own (([113] : List UInt8), ([] : List UInt8)) = true := decide_eq_true rfl
  obtain ⟨full, hfull⟩ : ∃ f, roomyG own (([113] : List UInt8), ([] : List UInt8)) = f := ⟨_, rfl⟩
  rw [hfull] at hF hFl hI
  have t6 : (decide (0 ≤ (((List.length own) : Nat) : Int)) && decide ((((List.length own) : Nat) : Int) ≤ (((List.length full) : Nat) : Int))) = true := by rw [hFl, Bool.and_eq_true, decide_eq_true_eq, decide_eq_true_eq]; omega
  have t7 : keepPre own ns = true := decide_eq_true ⟨by omega, by omega⟩
  have t8 : decide (List.length (keepG own ns) < 4611686018427387904) = true := decide_eq_true (by have : (keepG own ns).length ≤ own.length := List.length_filter_le ..; omega)
  have t9 : decide (List.length (dropG own ns) < 4611686018427387904) = true := decide_eq_true (by have : (dropG own ns).length ≤ own.length := List.length_filter_le ..; omega)
  have u1 : decide (List.length x1 ≤ 9223372036854775807) = true := decide_eq_true (by omega)
  have u2 : decide (List.length x1 ≤ 2000000) = true := decide_eq_true (by omega)
  have u3 : decide (List.length full ≤ 1000000 ∧ List.length own ≤ 1000000) = true := decide_eq_true ⟨by omega, by omega⟩
  have u4 := word_one x1
  simp only [z2, z3, List.drop_zero, List.take_length, t1, t2, hfull, l6_0R, hj, t3, t4, t5, t6, t7, t8, t9, u1, u2, u3, u4, hF, hI, show ∀ k : Nat, Int.toNat ((k : Nat) : Int) = k from fun _ => rfl, beq_self_eq_true, Option.isSome_some, Option.getD_some, ↓reduceIte]
theorem ltells_law (x0 : LB) (x1 : List UInt8) (x2 : List (List UInt8)) (ok0 : Ty.ok (.sl (.pair .str .str)) x0) (_ : Ty.ok .str x1) (_ : Ty.ok (.sl .str) x2) (h1 : x1.length ≤ 1048576) : ∃ g B', CallAt Tryd.prog 6 g ∧ (g [argAV false (.sl (.pair .str .str)) x0, argAV false .str x1, argAV false (.sl .str) x2] []).run = some (.d (.bool true), B') := ltells_at x0 x1 x2 (ltells_pure x0 x1 x2 (fun x hx => (ok0.2 x hx).1) h1)

end Go.Proofs.YtcdpgldecikejaaDoor.Dec
