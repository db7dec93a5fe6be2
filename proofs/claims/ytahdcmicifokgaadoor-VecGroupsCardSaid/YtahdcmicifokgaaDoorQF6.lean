/- klaxonkeep.Vec.Vec. slices.insertionSortCmpFunc of points. slices.stableCmpFunc of fewer than 20 points; slices.Clone of points. Sort; lset.Drop, lset.Keep. find, key, Twice. Holds, Filter, Above. Logic, Points. VecRuns, reckoned; texts are read in one way; what sorting gives. -/
import Derived.Test.YtahdcmicifokgaaDoorQF5
import Derived.KernelRfl
namespace Go.Proofs.YtahdcmicifokgaaDoor.Dec
open Go.Ev
set_option linter.unusedVariables false
set_option linter.unusedSimpArgs false
set_option maxRecDepth 100000
set_option maxHeartbeats 20000000
noncomputable def fn14 : AFn := (F 14).getD ⟨0, [], .bad, false, false, noHd⟩
noncomputable def body14 : AC := fn14.body
def l14_1 (m : Nat) : Nat → Q1 → Int → Q3 → Q0 → Q4 → Int → Int → Q2 → Option (Nat × (Q4) × Int)
  | 0, _, _, _, _, _, _, _, _ => none
  | n + 1, x0, s5, b1, b2, s8', s50', s51', b3' => if decide (s51' < s50') = true then
      if decide (0 ≤ s51') = true then
      if decide (s51' < (((List.length b3') : Nat) : Int)) = true then
      if decide ((0 + (Int.toNat s51')) < (List.length b3')) = true then
      if decide (List.length s8' + List.length (List.getD b3' (0 + (Int.toNat s51')) (([] : Q4), ([] : Q4))).1 ≤ 4611686018427387904) = true then
      if decide (List.length (s8' ++ (List.getD b3' (0 + (Int.toNat s51')) (([] : Q4), ([] : Q4))).1) + List.length ([61] : Q4) ≤ 4611686018427387904) = true then
      if decide (List.length ((s8' ++ (List.getD b3' (0 + (Int.toNat s51')) (([] : Q4), ([] : Q4))).1) ++ ([61] : Q4)) + List.length (List.getD b3' (0 + (Int.toNat s51')) (([] : Q4), ([] : Q4))).2 ≤ 4611686018427387904) = true then
      if decide (List.length (((s8' ++ (List.getD b3' (0 + (Int.toNat s51')) (([] : Q4), ([] : Q4))).1) ++ ([61] : Q4)) ++ (List.getD b3' (0 + (Int.toNat s51')) (([] : Q4), ([] : Q4))).2) + List.length ([59] : Q4) ≤ 4611686018427387904) = true then
      l14_1 m n x0 s5 b1 b2 (((((s8' ++ (List.getD b3' (0 + (Int.toNat s51')) (([] : Q4), ([] : Q4))).1) ++ ([61] : Q4)) ++ (List.getD b3' (0 + (Int.toNat s51')) (([] : Q4), ([] : Q4))).2) ++ ([59] : Q4))) s50' ((IntKind.wrap .i64 (s51' + (1)))) b3'
      else none
      else none
      else none
      else none
      else none
      else none
      else none
    else
      some (0, s8', s51')
def l14_1D : Nat × (Q4) × Int := (0, [], 0)
@[reducible] def l14_1R (m n : Nat) (x0 : Q1) (s5 : Int) (b1 : Q3) (b2 : Q0) (s8' : Q4) (s50' : Int) (s51' : Int) (b3' : Q2) : Nat × (Q4) × Int := Option.getD (l14_1 m n x0 s5 b1 b2 s8' s50' s51' b3') l14_1D
def l14_1H (x0 : Q1) (s5 : Int) (b1 : Q3) (b2 : Q0) (s8' : Q4) (s50' : Int) (s51' : Int) (b3' : Q2) : Env := (.top :: (.ptr 0 0) :: .top :: (.mp 1) :: (.sr 2 0 (List.length b2) 2 none) :: (.d (.int .i64 s5)) :: (.sr 3 0 (List.length b3') 2 none) :: .top :: (.d (.str s8')) :: tp40 ((.sr 3 0 (List.length b3') 2 none) :: (.d (.int .i64 s50')) :: (.d (.int .i64 s51')) :: tp30 []))
def l14_1B (x0 : Q1) (s5 : Int) (b1 : Q3) (b2 : Q0) (s8' : Q4) (s50' : Int) (s51' : Int) (b3' : Q2) : Boxes := [(.cells [(.d (.sl (.pair (.sl (.int .i64)) (.sl (.int .i64))) x0.1)), (.d (.sl (.int .i64) x0.2))]), (.keys .str b1), (.arr (.pair (.sl (.pair .str .str)) (.int .i64)) b2 true), (.arr (.pair .str .str) b3' true)]
def l14_1E (x0 : Q1) (s5 : Int) (b1 : Q3) (b2 : Q0) (s8' : Q4) (s50' : Int) (s51' : Int) (b3' : Q2) : Nat → AEx × Env × Boxes
  | _ => (.exit 2, (.top :: (.ptr 0 0) :: .top :: (.mp 1) :: (.sr 2 0 (List.length b2) 2 none) :: (.d (.int .i64 s5)) :: (.sr 3 0 (List.length b3') 2 none) :: .top :: (.d (.str s8')) :: tp40 ((.sr 3 0 (List.length b3') 2 none) :: (.d (.int .i64 s50')) :: (.d (.int .i64 s51')) :: (.d (.bool (decide (s51' < s50')))) :: tp29 [])), [(.cells [(.d (.sl (.pair (.sl (.int .i64)) (.sl (.int .i64))) x0.1)), (.d (.sl (.int .i64) x0.2))]), (.keys .str b1), (.arr (.pair (.sl (.pair .str .str)) (.int .i64)) b2 true), (.arr (.pair .str .str) b3' true)])
noncomputable def lbl14_1 : AC := loopBody 3940649673949562 body14
@[reducible] noncomputable def cb6 (m : Nat) := (evC byref (evCall F S14 (m + 24)) (m + 24) 0 (hds 14) lbl14_1)


theorem l14_1_step (m n : Nat) (ih : ∀ (x0 : Q1) (s5 : Int) (b1 : Q3) (b2 : Q0) (s8' : Q4) (s50' : Int) (s51' : Int) (b3' : Q2) (q : Nat × (Q4) × Int), l14_1 m n x0 s5 b1 b2 s8' s50' s51' b3' = some q → (turns (hds 14 3940649673949562) 0 3940649673949562 (cb6 m) n (l14_1H x0 s5 b1 b2 s8' s50' s51' b3') (l14_1B x0 s5 b1 b2 s8' s50' s51' b3')).run = some (l14_1E (x0) (s5) (b1) (b2) (q.2.1) (s50') (q.2.2) (b3') q.1)) (x0 : Q1) (s5 : Int) (b1 : Q3) (b2 : Q0) (s8' : Q4) (s50' : Int) (s51' : Int) (b3' : Q2) (q : Nat × (Q4) × Int) (h : l14_1 m (n + 1) x0 s5 b1 b2 s8' s50' s51' b3' = some q) : (turns (hds 14 3940649673949562) 0 3940649673949562 (cb6 m) (n + 1) (l14_1H x0 s5 b1 b2 s8' s50' s51' b3') (l14_1B x0 s5 b1 b2 s8' s50' s51' b3')).run = some (l14_1E (x0) (s5) (b1) (b2) (q.2.1) (s50') (q.2.2) (b3') q.1) := by
  rw [l14_1] at h
  refine ite_cases h (fun c0 h => ?_) (fun c0 h => ?_)
  · skip
    obtain ⟨c1, h⟩ := iY h
    obtain ⟨c2, h⟩ := iY h
    obtain ⟨c3, h⟩ := iY h
    obtain ⟨c4, h⟩ := iY h
    obtain ⟨c5, h⟩ := iY h
    obtain ⟨c6, h⟩ := iY h
    obtain ⟨c7, h⟩ := iY h
    have ih := ih _ _ _ _ _ _ _ _ q h
    refine turns_step ?_ ih
    exact M.run_of_path _ [tT, tT, tT, tT, tT, tT, tT, tT] _ _ (by kernel_rfl) (all_t c0 (all_t c1 (all_t c2 (all_t c3 (all_t c4 (all_t c5 (all_t c6 (all_t c7 all_nil))))))))
  · skip
    cases h
    refine turns_last (by simp) ?_
    exact M.run_of_path _ [fF] _ _ (by kernel_rfl) (all_f c0 all_nil)
theorem l14_1_ok (m : Nat) : ∀ (n : Nat) (x0 : Q1) (s5 : Int) (b1 : Q3) (b2 : Q0) (s8' : Q4) (s50' : Int) (s51' : Int) (b3' : Q2) (q : Nat × (Q4) × Int), l14_1 m n x0 s5 b1 b2 s8' s50' s51' b3' = some q → (turns (hds 14 3940649673949562) 0 3940649673949562 (cb6 m) n (l14_1H x0 s5 b1 b2 s8' s50' s51' b3') (l14_1B x0 s5 b1 b2 s8' s50' s51' b3')).run = some (l14_1E (x0) (s5) (b1) (b2) (q.2.1) (s50') (q.2.2) (b3') q.1)
  | 0, x0, s5, b1, b2, s8', s50', s51', b3', q, h => by cases h
  | n + 1, x0, s5, b1, b2, s8', s50', s51', b3', q, h => l14_1_step m n (l14_1_ok m n) x0 s5 b1 b2 s8' s50' s51' b3' q h

def l14_0 (m : Nat) : Nat → Q1 → Int → Q3 → Q0 → Option (Nat × Int × (Q3) × (Q0))
  | 0, _, _, _, _ => none
  | n + 1, x0, s5, b1, b2 => if decide (s5 < (((List.length x0.1) : Nat) : Int)) = true then
      if decide (s5 < 8) = true then
        if decide (0 ≤ s5) = true then
        if decide (((0 + (List.length (setG (List.getD x0.1 (Int.toNat s5) (([] : List Int), ([] : List Int)))))) * 32) ≤ 70368744177664) = true then
        if pickPre x0.2 s5 = true then
        if ((IntKind.wrap .i64 ((((BitVec.ofInt 64 (pickG x0.2 s5) &&& BitVec.ofInt 64 (1)).toNat : Nat) : Int))) == (1)) = true then
          if decide ((((0 + (List.length (setG (List.getD x0.1 (Int.toNat s5) (([] : List Int), ([] : List Int)))))) + 1) * 32) ≤ 70368744177664) = true then
          if decide ((0 + (List.length (setG (List.getD x0.1 (Int.toNat s5) (([] : List Int), ([] : List Int)))))) = (List.length (setG (List.getD x0.1 (Int.toNat s5) (([] : List Int), ([] : List Int)))))) = true then
          if (Option.isSome (l14_1 m (m + 24) x0 s5 b1 b2 (([] : Q4)) (((((0 + (List.length (setG (List.getD x0.1 (Int.toNat s5) (([] : List Int), ([] : List Int)))))) + 1) : Nat) : Int)) 0 (((setG (List.getD x0.1 (Int.toNat s5) (([] : List Int), ([] : List Int)))) ++ [(([110, 97, 109, 101] : Q4), (List.map (fun (n : Int) => UInt8.ofNat n.toNat) [(IntKind.wrap .u8 (IntKind.wrap .i64 ((109) + (withinI (IntKind.wrap .i64 (Int.tdiv (pickG x0.2 s5) (2))) (0) (2)))))]))])))) = true then
          if (hasKey .str b1 (l14_1R m (m + 24) x0 s5 b1 b2 (([] : Q4)) (((((0 + (List.length (setG (List.getD x0.1 (Int.toNat s5) (([] : List Int), ([] : List Int)))))) + 1) : Nat) : Int)) 0 (((setG (List.getD x0.1 (Int.toNat s5) (([] : List Int), ([] : List Int)))) ++ [(([110, 97, 109, 101] : Q4), (List.map (fun (n : Int) => UInt8.ofNat n.toNat) [(IntKind.wrap .u8 (IntKind.wrap .i64 ((109) + (withinI (IntKind.wrap .i64 (Int.tdiv (pickG x0.2 s5) (2))) (0) (2)))))]))]))).2.1) = true then
            l14_0 m n x0 ((IntKind.wrap .i64 (s5 + (1)))) b1 b2
          else
            if pickPre x0.2 (IntKind.wrap .i64 (s5 + (3))) = true then
            if decide ((((List.length b2) + 1) * 32) ≤ 70368744177664) = true then
            l14_0 m n x0 ((IntKind.wrap .i64 (s5 + (1)))) ((addKey .str b1 (l14_1R m (m + 24) x0 s5 b1 b2 (([] : Q4)) (((((0 + (List.length (setG (List.getD x0.1 (Int.toNat s5) (([] : List Int), ([] : List Int)))))) + 1) : Nat) : Int)) 0 (((setG (List.getD x0.1 (Int.toNat s5) (([] : List Int), ([] : List Int)))) ++ [(([110, 97, 109, 101] : Q4), (List.map (fun (n : Int) => UInt8.ofNat n.toNat) [(IntKind.wrap .u8 (IntKind.wrap .i64 ((109) + (withinI (IntKind.wrap .i64 (Int.tdiv (pickG x0.2 s5) (2))) (0) (2)))))]))]))).2.1)) ((b2 ++ [((List.take (List.length (((setG (List.getD x0.1 (Int.toNat s5) (([] : List Int), ([] : List Int)))) ++ [(([110, 97, 109, 101] : Q4), (List.map (fun (n : Int) => UInt8.ofNat n.toNat) [(IntKind.wrap .u8 (IntKind.wrap .i64 ((109) + (withinI (IntKind.wrap .i64 (Int.tdiv (pickG x0.2 s5) (2))) (0) (2)))))]))]))) (List.drop 0 (((setG (List.getD x0.1 (Int.toNat s5) (([] : List Int), ([] : List Int)))) ++ [(([110, 97, 109, 101] : Q4), (List.map (fun (n : Int) => UInt8.ofNat n.toNat) [(IntKind.wrap .u8 (IntKind.wrap .i64 ((109) + (withinI (IntKind.wrap .i64 (Int.tdiv (pickG x0.2 s5) (2))) (0) (2)))))]))])))), (withinI (pickG x0.2 (IntKind.wrap .i64 (s5 + (3)))) (-9) (20)))]))
            else none
            else none
          else none
          else none
          else none
        else
          if (Option.isSome (l14_1 m (m + 24) x0 s5 b1 b2 (([] : Q4)) ((((0 + (List.length (setG (List.getD x0.1 (Int.toNat s5) (([] : List Int), ([] : List Int)))))) : Nat) : Int)) 0 ((setG (List.getD x0.1 (Int.toNat s5) (([] : List Int), ([] : List Int))))))) = true then
          if (hasKey .str b1 (l14_1R m (m + 24) x0 s5 b1 b2 (([] : Q4)) ((((0 + (List.length (setG (List.getD x0.1 (Int.toNat s5) (([] : List Int), ([] : List Int)))))) : Nat) : Int)) 0 ((setG (List.getD x0.1 (Int.toNat s5) (([] : List Int), ([] : List Int)))))).2.1) = true then
            l14_0 m n x0 ((IntKind.wrap .i64 (s5 + (1)))) b1 b2
          else
            if pickPre x0.2 (IntKind.wrap .i64 (s5 + (3))) = true then
            if decide ((((List.length b2) + 1) * 32) ≤ 70368744177664) = true then
            l14_0 m n x0 ((IntKind.wrap .i64 (s5 + (1)))) ((addKey .str b1 (l14_1R m (m + 24) x0 s5 b1 b2 (([] : Q4)) ((((0 + (List.length (setG (List.getD x0.1 (Int.toNat s5) (([] : List Int), ([] : List Int)))))) : Nat) : Int)) 0 ((setG (List.getD x0.1 (Int.toNat s5) (([] : List Int), ([] : List Int)))))).2.1)) ((b2 ++ [((List.take (List.length ((setG (List.getD x0.1 (Int.toNat s5) (([] : List Int), ([] : List Int)))))) (List.drop 0 ((setG (List.getD x0.1 (Int.toNat s5) (([] : List Int), ([] : List Int))))))), (withinI (pickG x0.2 (IntKind.wrap .i64 (s5 + (3)))) (-9) (20)))]))
            else none
            else none
          else none
        else none
        else none
        else none
      else
        some (0, s5, b1, b2)
    else
      some (1, s5, b1, b2)
def l14_0D : Nat × Int × (Q3) × (Q0) := (0, 0, [], [])
@[reducible] def l14_0R (m n : Nat) (x0 : Q1) (s5 : Int) (b1 : Q3) (b2 : Q0) : Nat × Int × (Q3) × (Q0) := Option.getD (l14_0 m n x0 s5 b1 b2) l14_0D
def l14_0H (x0 : Q1) (s5 : Int) (b1 : Q3) (b2 : Q0) : Env := (.top :: (.ptr 0 0) :: .top :: (.mp 1) :: (.sr 2 0 (List.length b2) 2 none) :: (.d (.int .i64 s5)) :: tp76 [])
def l14_0B (x0 : Q1) (s5 : Int) (b1 : Q3) (b2 : Q0) : Boxes := [(.cells [(.d (.sl (.pair (.sl (.int .i64)) (.sl (.int .i64))) x0.1)), (.d (.sl (.int .i64) x0.2))]), (.keys .str b1), (.arr (.pair (.sl (.pair .str .str)) (.int .i64)) b2 true)]
def l14_0E (x0 : Q1) (s5 : Int) (b1 : Q3) (b2 : Q0) : Nat → AEx × Env × Boxes
  | 0 => (.exit 0, (.top :: (.ptr 0 0) :: .top :: (.mp 1) :: (.sr 2 0 (List.length b2) 2 none) :: (.d (.int .i64 s5)) :: .top :: .top :: .top :: .top :: .top :: .top :: (.d (.int .i64 s5)) :: (.ptr 0 0) :: (.d (.sl (.pair (.sl (.int .i64)) (.sl (.int .i64))) x0.1)) :: (.d (.int .i64 (((List.length x0.1) : Nat) : Int))) :: (.d (.bool (decide (s5 < (((List.length x0.1) : Nat) : Int))))) :: (.d (.bool (decide (s5 < (((List.length x0.1) : Nat) : Int))))) :: (.d (.int .i64 s5)) :: (.d (.bool (decide (s5 < 8)))) :: (.d (.bool (decide (s5 < 8)))) :: tp61 []), [(.cells [(.d (.sl (.pair (.sl (.int .i64)) (.sl (.int .i64))) x0.1)), (.d (.sl (.int .i64) x0.2))]), (.keys .str b1), (.arr (.pair (.sl (.pair .str .str)) (.int .i64)) b2 true)])
  | _ => (.exit 0, (.top :: (.ptr 0 0) :: .top :: (.mp 1) :: (.sr 2 0 (List.length b2) 2 none) :: (.d (.int .i64 s5)) :: .top :: .top :: .top :: .top :: .top :: .top :: (.d (.int .i64 s5)) :: (.ptr 0 0) :: (.d (.sl (.pair (.sl (.int .i64)) (.sl (.int .i64))) x0.1)) :: (.d (.int .i64 (((List.length x0.1) : Nat) : Int))) :: (.d (.bool (decide (s5 < (((List.length x0.1) : Nat) : Int))))) :: (.d (.bool (decide (s5 < (((List.length x0.1) : Nat) : Int))))) :: (.tup []) :: (.tup []) :: (.d (.bool false)) :: tp61 []), [(.cells [(.d (.sl (.pair (.sl (.int .i64)) (.sl (.int .i64))) x0.1)), (.d (.sl (.int .i64) x0.2))]), (.keys .str b1), (.arr (.pair (.sl (.pair .str .str)) (.int .i64)) b2 true)])
noncomputable def lbl14_0 : AC := loopBody 58 body14
@[reducible] noncomputable def cb7 (m : Nat) := (evC byref (evCall F S14 (m + 24)) (m + 24) 0 (hds 14) lbl14_0)


theorem l14_0_step (m n : Nat) (ih : ∀ (x0 : Q1) (s5 : Int) (b1 : Q3) (b2 : Q0) (q : Nat × Int × (Q3) × (Q0)), l14_0 m n x0 s5 b1 b2 = some q → (turns (hds 14 58) 0 58 (cb7 m) n (l14_0H x0 s5 b1 b2) (l14_0B x0 s5 b1 b2)).run = some (l14_0E (x0) (q.2.1) (q.2.2.1) (q.2.2.2) q.1)) (x0 : Q1) (s5 : Int) (b1 : Q3) (b2 : Q0) (q : Nat × Int × (Q3) × (Q0)) (h : l14_0 m (n + 1) x0 s5 b1 b2 = some q) : (turns (hds 14 58) 0 58 (cb7 m) (n + 1) (l14_0H x0 s5 b1 b2) (l14_0B x0 s5 b1 b2)).run = some (l14_0E (x0) (q.2.1) (q.2.2.1) (q.2.2.2) q.1) := by
  rw [l14_0] at h
  refine ite_cases h (fun c0 h => ?_) (fun c0 h => ?_)
  · skip
    refine ite_cases h (fun c3 h => ?_) (fun c3 h => ?_)
    · skip
      obtain ⟨c4, h⟩ := iY h
      obtain ⟨c7, h⟩ := iY h
      obtain ⟨c9, h⟩ := iY h
      refine ite_cases h (fun c10 h => ?_) (fun c10 h => ?_)
      · skip
        obtain ⟨c15, h⟩ := iY h
        obtain ⟨c16, h⟩ := iY h
        obtain ⟨c17, h⟩ := iY h
        refine ite_cases h (fun c18 h => ?_) (fun c18 h => ?_)
        · skip
          have ih := ih _ _ _ _ q h
          refine turns_step ?_ ih
          refine turnT_ok (LS := (fun k => if k = 3940649673949562 then some (l14_1E x0 s5 b1 b2 ((l14_1R m (m + 24) x0 s5 b1 b2 (([] : Q4)) (((((0 + (List.length (setG (List.getD x0.1 (Int.toNat s5) (([] : List Int), ([] : List Int)))))) + 1) : Nat) : Int)) 0 (((setG (List.getD x0.1 (Int.toNat s5) (([] : List Int), ([] : List Int)))) ++ [(([110, 97, 109, 101] : Q4), (List.map (fun (n : Int) => UInt8.ofNat n.toNat) [(IntKind.wrap .u8 (IntKind.wrap .i64 ((109) + (withinI (IntKind.wrap .i64 (Int.tdiv (pickG x0.2 s5) (2))) (0) (2)))))]))]))).2.1) ((((((0 + (List.length (setG (List.getD x0.1 (Int.toNat s5) (([] : List Int), ([] : List Int)))))) + 1) : Nat) : Int))) ((l14_1R m (m + 24) x0 s5 b1 b2 (([] : Q4)) (((((0 + (List.length (setG (List.getD x0.1 (Int.toNat s5) (([] : List Int), ([] : List Int)))))) + 1) : Nat) : Int)) 0 (((setG (List.getD x0.1 (Int.toNat s5) (([] : List Int), ([] : List Int)))) ++ [(([110, 97, 109, 101] : Q4), (List.map (fun (n : Int) => UInt8.ofNat n.toNat) [(IntKind.wrap .u8 (IntKind.wrap .i64 ((109) + (withinI (IntKind.wrap .i64 (Int.tdiv (pickG x0.2 s5) (2))) (0) (2)))))]))]))).2.2) ((((setG (List.getD x0.1 (Int.toNat s5) (([] : List Int), ([] : List Int)))) ++ [(([110, 97, 109, 101] : Q4), (List.map (fun (n : Int) => UInt8.ofNat n.toNat) [(IntKind.wrap .u8 (IntKind.wrap .i64 ((109) + (withinI (IntKind.wrap .i64 (Int.tdiv (pickG x0.2 s5) (2))) (0) (2)))))]))]))) 0) else none)) (vis := [(3940649673949562, (.top :: (.ptr 0 0) :: .top :: (.mp 1) :: (.sr 2 0 (List.length b2) 2 none) :: (.d (.int .i64 s5)) :: (.sr 3 0 ((0 + (List.length (setG (List.getD x0.1 (Int.toNat s5) (([] : List Int), ([] : List Int)))))) + 1) 2 none) :: .top :: (.d (.str ([] : Q4))) :: tp40 ((.sr 3 0 ((0 + (List.length (setG (List.getD x0.1 (Int.toNat s5) (([] : List Int), ([] : List Int)))))) + 1) 2 none) :: (.d (.int .i64 ((((0 + (List.length (setG (List.getD x0.1 (Int.toNat s5) (([] : List Int), ([] : List Int)))))) + 1) : Nat) : Int))) :: (.d (.int .i64 (0))) :: tp30 [])), [(.cells [(.d (.sl (.pair (.sl (.int .i64)) (.sl (.int .i64))) x0.1)), (.d (.sl (.int .i64) x0.2))]), (.keys .str b1), (.arr (.pair (.sl (.pair .str .str)) (.int .i64)) b2 true), (.arr (.pair .str .str) ((setG (List.getD x0.1 (Int.toNat s5) (([] : List Int), ([] : List Int)))) ++ [(([110, 97, 109, 101] : Q4), (List.map (fun (n : Int) => UInt8.ofNat n.toNat) [(IntKind.wrap .u8 (IntKind.wrap .i64 ((109) + (withinI (IntKind.wrap .i64 (Int.tdiv (pickG x0.2 s5) (2))) (0) (2)))))]))]) true)])]) (by kernel_rfl) (M.run_of_path _ [tT, tT, tT, tT, tT, tT, tT, tT, tT, tT, tT, tT, tT, tT, tT, tT, tT, tT] _ _ (by kernel_rfl) (all_t c0 (all_t c0 (all_t c0 (all_t c3 (all_t c4 (all_t c0 (all_t rfl (all_t c7 (all_t rfl (all_t c9 (all_t c10 (all_t rfl (all_t rfl (all_t rfl (all_t rfl (all_t c15 (all_t c16 (all_t c18 all_nil))))))))))))))))))) ?_
          intro p hp p2 hq
          rcases List.mem_cons.1 hp with rfl | hp
          · skip
            have h3 := l14_1_ok m (m + 24) x0 s5 b1 b2 (([] : Q4)) (((((0 + (List.length (setG (List.getD x0.1 (Int.toNat s5) (([] : List Int), ([] : List Int)))))) + 1) : Nat) : Int)) 0 (((setG (List.getD x0.1 (Int.toNat s5) (([] : List Int), ([] : List Int)))) ++ [(([110, 97, 109, 101] : Q4), (List.map (fun (n : Int) => UInt8.ofNat n.toNat) [(IntKind.wrap .u8 (IntKind.wrap .i64 ((109) + (withinI (IntKind.wrap .i64 (Int.tdiv (pickG x0.2 s5) (2))) (0) (2)))))]))])) _ (some_getD (d := l14_1D) c17)
            have h3 := turns_eq (e := (.top :: (.ptr 0 0) :: .top :: (.mp 1) :: (.sr 2 0 (List.length b2) 2 none) :: (.d (.int .i64 s5)) :: (.sr 3 0 ((0 + (List.length (setG (List.getD x0.1 (Int.toNat s5) (([] : List Int), ([] : List Int)))))) + 1) 2 none) :: .top :: (.d (.str ([] : Q4))) :: tp40 ((.sr 3 0 ((0 + (List.length (setG (List.getD x0.1 (Int.toNat s5) (([] : List Int), ([] : List Int)))))) + 1) 2 none) :: (.d (.int .i64 ((((0 + (List.length (setG (List.getD x0.1 (Int.toNat s5) (([] : List Int), ([] : List Int)))))) + 1) : Nat) : Int))) :: (.d (.int .i64 (0))) :: tp30 []))) (B := [(.cells [(.d (.sl (.pair (.sl (.int .i64)) (.sl (.int .i64))) x0.1)), (.d (.sl (.int .i64) x0.2))]), (.keys .str b1), (.arr (.pair (.sl (.pair .str .str)) (.int .i64)) b2 true), (.arr (.pair .str .str) ((setG (List.getD x0.1 (Int.toNat s5) (([] : List Int), ([] : List Int)))) ++ [(([110, 97, 109, 101] : Q4), (List.map (fun (n : Int) => UInt8.ofNat n.toNat) [(IntKind.wrap .u8 (IntKind.wrap .i64 ((109) + (withinI (IntKind.wrap .i64 (Int.tdiv (pickG x0.2 s5) (2))) (0) (2)))))]))]) true)]) (by unfold l14_1H; (try rw [show (List.length ((setG (List.getD x0.1 (Int.toNat s5) (([] : List Int), ([] : List Int)))) ++ [(([110, 97, 109, 101] : Q4), (List.map (fun (n : Int) => UInt8.ofNat n.toNat) [(IntKind.wrap .u8 (IntKind.wrap .i64 ((109) + (withinI (IntKind.wrap .i64 (Int.tdiv (pickG x0.2 s5) (2))) (0) (2)))))]))])) = ((0 + (List.length (setG (List.getD x0.1 (Int.toNat s5) (([] : List Int), ([] : List Int)))))) + 1) from by simp]); (try simp only [Nat.zero_add, List.length_nil])) rfl h3
            exact Eq.trans (Eq.mp (by kernel_rfl) h3) hq
          cases hp
        · skip
          obtain ⟨c19, h⟩ := iY h
          obtain ⟨c23, h⟩ := iY h
          have ih := ih _ _ _ _ q h
          have ht : (turn (hds 14 58) 0 58 (cb7 m) (l14_0H x0 s5 b1 b2) (l14_0B x0 s5 b1 b2)).run = some (let r2 := (withinI (IntKind.wrap .i64 (Int.tdiv (pickG x0.2 s5) (2))) (0) (2)); let r1 := (setG (List.getD x0.1 (Int.toNat s5) (([] : List Int), ([] : List Int)))); (.normal, (.top :: (.ptr 0 0) :: .top :: (.mp 1) :: (.sr 2 0 ((List.length b2) + 1) 2 none) :: (.d (.int .i64 (IntKind.wrap .i64 (s5 + (1))))) :: tp76 []), [(.cells [(.d (.sl (.pair (.sl (.int .i64)) (.sl (.int .i64))) x0.1)), (.d (.sl (.int .i64) x0.2))]), (.keys .str (addKey .str b1 (l14_1R m (m + 24) x0 s5 b1 b2 (([] : Q4)) (((((0 + (List.length r1)) + 1) : Nat) : Int)) 0 ((r1 ++ [(([110, 97, 109, 101] : Q4), (List.map (fun (n : Int) => UInt8.ofNat n.toNat) [(IntKind.wrap .u8 (IntKind.wrap .i64 ((109) + r2)))]))]))).2.1)), (.arr (.pair (.sl (.pair .str .str)) (.int .i64)) (b2 ++ [((List.take (List.length ((r1 ++ [(([110, 97, 109, 101] : Q4), (List.map (fun (n : Int) => UInt8.ofNat n.toNat) [(IntKind.wrap .u8 (IntKind.wrap .i64 ((109) + r2)))]))]))) (List.drop 0 ((r1 ++ [(([110, 97, 109, 101] : Q4), (List.map (fun (n : Int) => UInt8.ofNat n.toNat) [(IntKind.wrap .u8 (IntKind.wrap .i64 ((109) + r2)))]))])))), (withinI (pickG x0.2 (IntKind.wrap .i64 (s5 + (3)))) (-9) (20)))]) true)])) := by
            refine turnT_ok (LS := (fun k => if k = 3940649673949562 then some (l14_1E x0 s5 b1 b2 ((l14_1R m (m + 24) x0 s5 b1 b2 (([] : Q4)) (((((0 + (List.length (setG (List.getD x0.1 (Int.toNat s5) (([] : List Int), ([] : List Int)))))) + 1) : Nat) : Int)) 0 (((setG (List.getD x0.1 (Int.toNat s5) (([] : List Int), ([] : List Int)))) ++ [(([110, 97, 109, 101] : Q4), (List.map (fun (n : Int) => UInt8.ofNat n.toNat) [(IntKind.wrap .u8 (IntKind.wrap .i64 ((109) + (withinI (IntKind.wrap .i64 (Int.tdiv (pickG x0.2 s5) (2))) (0) (2)))))]))]))).2.1) ((((((0 + (List.length (setG (List.getD x0.1 (Int.toNat s5) (([] : List Int), ([] : List Int)))))) + 1) : Nat) : Int))) ((l14_1R m (m + 24) x0 s5 b1 b2 (([] : Q4)) (((((0 + (List.length (setG (List.getD x0.1 (Int.toNat s5) (([] : List Int), ([] : List Int)))))) + 1) : Nat) : Int)) 0 (((setG (List.getD x0.1 (Int.toNat s5) (([] : List Int), ([] : List Int)))) ++ [(([110, 97, 109, 101] : Q4), (List.map (fun (n : Int) => UInt8.ofNat n.toNat) [(IntKind.wrap .u8 (IntKind.wrap .i64 ((109) + (withinI (IntKind.wrap .i64 (Int.tdiv (pickG x0.2 s5) (2))) (0) (2)))))]))]))).2.2) ((((setG (List.getD x0.1 (Int.toNat s5) (([] : List Int), ([] : List Int)))) ++ [(([110, 97, 109, 101] : Q4), (List.map (fun (n : Int) => UInt8.ofNat n.toNat) [(IntKind.wrap .u8 (IntKind.wrap .i64 ((109) + (withinI (IntKind.wrap .i64 (Int.tdiv (pickG x0.2 s5) (2))) (0) (2)))))]))]))) 0) else none)) (vis := [(3940649673949562, (.top :: (.ptr 0 0) :: .top :: (.mp 1) :: (.sr 2 0 (List.length b2) 2 none) :: (.d (.int .i64 s5)) :: (.sr 3 0 ((0 + (List.length (setG (List.getD x0.1 (Int.toNat s5) (([] : List Int), ([] : List Int)))))) + 1) 2 none) :: .top :: (.d (.str ([] : Q4))) :: tp40 ((.sr 3 0 ((0 + (List.length (setG (List.getD x0.1 (Int.toNat s5) (([] : List Int), ([] : List Int)))))) + 1) 2 none) :: (.d (.int .i64 ((((0 + (List.length (setG (List.getD x0.1 (Int.toNat s5) (([] : List Int), ([] : List Int)))))) + 1) : Nat) : Int))) :: (.d (.int .i64 (0))) :: tp30 [])), [(.cells [(.d (.sl (.pair (.sl (.int .i64)) (.sl (.int .i64))) x0.1)), (.d (.sl (.int .i64) x0.2))]), (.keys .str b1), (.arr (.pair (.sl (.pair .str .str)) (.int .i64)) b2 true), (.arr (.pair .str .str) ((setG (List.getD x0.1 (Int.toNat s5) (([] : List Int), ([] : List Int)))) ++ [(([110, 97, 109, 101] : Q4), (List.map (fun (n : Int) => UInt8.ofNat n.toNat) [(IntKind.wrap .u8 (IntKind.wrap .i64 ((109) + (withinI (IntKind.wrap .i64 (Int.tdiv (pickG x0.2 s5) (2))) (0) (2)))))]))]) true)])]) (by kernel_rfl) (M.run_of_path _ [tT, tT, tT, tT, tT, tT, tT, tT, tT, tT, tT, tT, tT, tT, tT, tT, tT, fF, tT, tT, tT, tT, tT, tT] _ _ (by kernel_rfl) (all_t c0 (all_t c0 (all_t c0 (all_t c3 (all_t c4 (all_t c0 (all_t rfl (all_t c7 (all_t rfl (all_t c9 (all_t c10 (all_t rfl (all_t rfl (all_t rfl (all_t rfl (all_t c15 (all_t c16 (all_f c18 (all_t c19 (all_t rfl (all_t (show decide ((0 + (List.length (((setG (List.getD x0.1 (Int.toNat s5) (([] : List Int), ([] : List Int)))) ++ [(([110, 97, 109, 101] : Q4), (List.map (fun (n : Int) => UInt8.ofNat n.toNat) [(IntKind.wrap .u8 (IntKind.wrap .i64 ((109) + (withinI (IntKind.wrap .i64 (Int.tdiv (pickG x0.2 s5) (2))) (0) (2)))))]))])))) ≤ (List.length (((setG (List.getD x0.1 (Int.toNat s5) (([] : List Int), ([] : List Int)))) ++ [(([110, 97, 109, 101] : Q4), (List.map (fun (n : Int) => UInt8.ofNat n.toNat) [(IntKind.wrap .u8 (IntKind.wrap .i64 ((109) + (withinI (IntKind.wrap .i64 (Int.tdiv (pickG x0.2 s5) (2))) (0) (2)))))]))])))) = true from decide_eq_true (Nat.le_of_eq (Nat.zero_add _))) (all_t rfl (all_t c23 (all_t (show decide ((List.length b2) = (List.length b2)) = true from decide_eq_true rfl) all_nil))))))))))))))))))))))))) ?_
            intro p hp p2 hq
            rcases List.mem_cons.1 hp with rfl | hp
            · skip
              have h3 := l14_1_ok m (m + 24) x0 s5 b1 b2 (([] : Q4)) (((((0 + (List.length (setG (List.getD x0.1 (Int.toNat s5) (([] : List Int), ([] : List Int)))))) + 1) : Nat) : Int)) 0 (((setG (List.getD x0.1 (Int.toNat s5) (([] : List Int), ([] : List Int)))) ++ [(([110, 97, 109, 101] : Q4), (List.map (fun (n : Int) => UInt8.ofNat n.toNat) [(IntKind.wrap .u8 (IntKind.wrap .i64 ((109) + (withinI (IntKind.wrap .i64 (Int.tdiv (pickG x0.2 s5) (2))) (0) (2)))))]))])) _ (some_getD (d := l14_1D) c17)
              have h3 := turns_eq (e := (.top :: (.ptr 0 0) :: .top :: (.mp 1) :: (.sr 2 0 (List.length b2) 2 none) :: (.d (.int .i64 s5)) :: (.sr 3 0 ((0 + (List.length (setG (List.getD x0.1 (Int.toNat s5) (([] : List Int), ([] : List Int)))))) + 1) 2 none) :: .top :: (.d (.str ([] : Q4))) :: tp40 ((.sr 3 0 ((0 + (List.length (setG (List.getD x0.1 (Int.toNat s5) (([] : List Int), ([] : List Int)))))) + 1) 2 none) :: (.d (.int .i64 ((((0 + (List.length (setG (List.getD x0.1 (Int.toNat s5) (([] : List Int), ([] : List Int)))))) + 1) : Nat) : Int))) :: (.d (.int .i64 (0))) :: tp30 []))) (B := [(.cells [(.d (.sl (.pair (.sl (.int .i64)) (.sl (.int .i64))) x0.1)), (.d (.sl (.int .i64) x0.2))]), (.keys .str b1), (.arr (.pair (.sl (.pair .str .str)) (.int .i64)) b2 true), (.arr (.pair .str .str) ((setG (List.getD x0.1 (Int.toNat s5) (([] : List Int), ([] : List Int)))) ++ [(([110, 97, 109, 101] : Q4), (List.map (fun (n : Int) => UInt8.ofNat n.toNat) [(IntKind.wrap .u8 (IntKind.wrap .i64 ((109) + (withinI (IntKind.wrap .i64 (Int.tdiv (pickG x0.2 s5) (2))) (0) (2)))))]))]) true)]) (by unfold l14_1H; (try rw [show (List.length ((setG (List.getD x0.1 (Int.toNat s5) (([] : List Int), ([] : List Int)))) ++ [(([110, 97, 109, 101] : Q4), (List.map (fun (n : Int) => UInt8.ofNat n.toNat) [(IntKind.wrap .u8 (IntKind.wrap .i64 ((109) + (withinI (IntKind.wrap .i64 (Int.tdiv (pickG x0.2 s5) (2))) (0) (2)))))]))])) = ((0 + (List.length (setG (List.getD x0.1 (Int.toNat s5) (([] : List Int), ([] : List Int)))))) + 1) from by simp]); (try simp only [Nat.zero_add, List.length_nil])) rfl h3
              exact Eq.trans (Eq.mp (by kernel_rfl) h3) hq
            cases hp
          refine turns_step ht (turns_eq ?_ ?_ ih)
          · unfold l14_0H
            first | (simp; done) | (simp [Nat.add_assoc]; done) | (simp; omega)
          · unfold l14_0B
            simp
      · skip
        obtain ⟨c11, h⟩ := iY h
        refine ite_cases h (fun c12 h => ?_) (fun c12 h => ?_)
        · skip
          have ih := ih _ _ _ _ q h
          refine turns_step ?_ ih
          refine turnT_ok (LS := (fun k => if k = 3940649673949562 then some (l14_1E x0 s5 b1 b2 ((l14_1R m (m + 24) x0 s5 b1 b2 (([] : Q4)) ((((0 + (List.length (setG (List.getD x0.1 (Int.toNat s5) (([] : List Int), ([] : List Int)))))) : Nat) : Int)) 0 ((setG (List.getD x0.1 (Int.toNat s5) (([] : List Int), ([] : List Int)))))).2.1) (((((0 + (List.length (setG (List.getD x0.1 (Int.toNat s5) (([] : List Int), ([] : List Int)))))) : Nat) : Int))) ((l14_1R m (m + 24) x0 s5 b1 b2 (([] : Q4)) ((((0 + (List.length (setG (List.getD x0.1 (Int.toNat s5) (([] : List Int), ([] : List Int)))))) : Nat) : Int)) 0 ((setG (List.getD x0.1 (Int.toNat s5) (([] : List Int), ([] : List Int)))))).2.2) (((setG (List.getD x0.1 (Int.toNat s5) (([] : List Int), ([] : List Int)))))) 0) else none)) (vis := [(3940649673949562, (.top :: (.ptr 0 0) :: .top :: (.mp 1) :: (.sr 2 0 (List.length b2) 2 none) :: (.d (.int .i64 s5)) :: (.sr 3 0 (0 + (List.length (setG (List.getD x0.1 (Int.toNat s5) (([] : List Int), ([] : List Int)))))) 2 none) :: .top :: (.d (.str ([] : Q4))) :: tp40 ((.sr 3 0 (0 + (List.length (setG (List.getD x0.1 (Int.toNat s5) (([] : List Int), ([] : List Int)))))) 2 none) :: (.d (.int .i64 (((0 + (List.length (setG (List.getD x0.1 (Int.toNat s5) (([] : List Int), ([] : List Int)))))) : Nat) : Int))) :: (.d (.int .i64 (0))) :: tp30 [])), [(.cells [(.d (.sl (.pair (.sl (.int .i64)) (.sl (.int .i64))) x0.1)), (.d (.sl (.int .i64) x0.2))]), (.keys .str b1), (.arr (.pair (.sl (.pair .str .str)) (.int .i64)) b2 true), (.arr (.pair .str .str) (setG (List.getD x0.1 (Int.toNat s5) (([] : List Int), ([] : List Int)))) true)])]) (by kernel_rfl) (M.run_of_path _ [tT, tT, tT, tT, tT, tT, tT, tT, tT, tT, fF, tT] _ _ (by kernel_rfl) (all_t c0 (all_t c0 (all_t c0 (all_t c3 (all_t c4 (all_t c0 (all_t rfl (all_t c7 (all_t rfl (all_t c9 (all_f c10 (all_t c12 all_nil))))))))))))) ?_
          intro p hp p2 hq
          rcases List.mem_cons.1 hp with rfl | hp
          · skip
            have h3 := l14_1_ok m (m + 24) x0 s5 b1 b2 (([] : Q4)) ((((0 + (List.length (setG (List.getD x0.1 (Int.toNat s5) (([] : List Int), ([] : List Int)))))) : Nat) : Int)) 0 ((setG (List.getD x0.1 (Int.toNat s5) (([] : List Int), ([] : List Int))))) _ (some_getD (d := l14_1D) c11)
            have h3 := turns_eq (e := (.top :: (.ptr 0 0) :: .top :: (.mp 1) :: (.sr 2 0 (List.length b2) 2 none) :: (.d (.int .i64 s5)) :: (.sr 3 0 (0 + (List.length (setG (List.getD x0.1 (Int.toNat s5) (([] : List Int), ([] : List Int)))))) 2 none) :: .top :: (.d (.str ([] : Q4))) :: tp40 ((.sr 3 0 (0 + (List.length (setG (List.getD x0.1 (Int.toNat s5) (([] : List Int), ([] : List Int)))))) 2 none) :: (.d (.int .i64 (((0 + (List.length (setG (List.getD x0.1 (Int.toNat s5) (([] : List Int), ([] : List Int)))))) : Nat) : Int))) :: (.d (.int .i64 (0))) :: tp30 []))) (B := [(.cells [(.d (.sl (.pair (.sl (.int .i64)) (.sl (.int .i64))) x0.1)), (.d (.sl (.int .i64) x0.2))]), (.keys .str b1), (.arr (.pair (.sl (.pair .str .str)) (.int .i64)) b2 true), (.arr (.pair .str .str) (setG (List.getD x0.1 (Int.toNat s5) (([] : List Int), ([] : List Int)))) true)]) (by unfold l14_1H; (try rw [show (0 + (List.length (setG (List.getD x0.1 (Int.toNat s5) (([] : List Int), ([] : List Int)))))) = (List.length (setG (List.getD x0.1 (Int.toNat s5) (([] : List Int), ([] : List Int))))) from by simp]); (try simp only [Nat.zero_add, List.length_nil])) rfl h3
            exact Eq.trans (Eq.mp (by kernel_rfl) h3) hq
          cases hp
        · skip
          obtain ⟨c13, h⟩ := iY h
          obtain ⟨c17, h⟩ := iY h
          have ih := ih _ _ _ _ q h
          have ht : (turn (hds 14 58) 0 58 (cb7 m) (l14_0H x0 s5 b1 b2) (l14_0B x0 s5 b1 b2)).run = some (let r1 := (setG (List.getD x0.1 (Int.toNat s5) (([] : List Int), ([] : List Int)))); (.normal, (.top :: (.ptr 0 0) :: .top :: (.mp 1) :: (.sr 2 0 ((List.length b2) + 1) 2 none) :: (.d (.int .i64 (IntKind.wrap .i64 (s5 + (1))))) :: tp76 []), [(.cells [(.d (.sl (.pair (.sl (.int .i64)) (.sl (.int .i64))) x0.1)), (.d (.sl (.int .i64) x0.2))]), (.keys .str (addKey .str b1 (l14_1R m (m + 24) x0 s5 b1 b2 (([] : Q4)) ((((0 + (List.length r1)) : Nat) : Int)) 0 (r1)).2.1)), (.arr (.pair (.sl (.pair .str .str)) (.int .i64)) (b2 ++ [((List.take (List.length (r1)) (List.drop 0 (r1))), (withinI (pickG x0.2 (IntKind.wrap .i64 (s5 + (3)))) (-9) (20)))]) true)])) := by
            refine turnT_ok (LS := (fun k => if k = 3940649673949562 then some (l14_1E x0 s5 b1 b2 ((l14_1R m (m + 24) x0 s5 b1 b2 (([] : Q4)) ((((0 + (List.length (setG (List.getD x0.1 (Int.toNat s5) (([] : List Int), ([] : List Int)))))) : Nat) : Int)) 0 ((setG (List.getD x0.1 (Int.toNat s5) (([] : List Int), ([] : List Int)))))).2.1) (((((0 + (List.length (setG (List.getD x0.1 (Int.toNat s5) (([] : List Int), ([] : List Int)))))) : Nat) : Int))) ((l14_1R m (m + 24) x0 s5 b1 b2 (([] : Q4)) ((((0 + (List.length (setG (List.getD x0.1 (Int.toNat s5) (([] : List Int), ([] : List Int)))))) : Nat) : Int)) 0 ((setG (List.getD x0.1 (Int.toNat s5) (([] : List Int), ([] : List Int)))))).2.2) (((setG (List.getD x0.1 (Int.toNat s5) (([] : List Int), ([] : List Int)))))) 0) else none)) (vis := [(3940649673949562, (.top :: (.ptr 0 0) :: .top :: (.mp 1) :: (.sr 2 0 (List.length b2) 2 none) :: (.d (.int .i64 s5)) :: (.sr 3 0 (0 + (List.length (setG (List.getD x0.1 (Int.toNat s5) (([] : List Int), ([] : List Int)))))) 2 none) :: .top :: (.d (.str ([] : Q4))) :: tp40 ((.sr 3 0 (0 + (List.length (setG (List.getD x0.1 (Int.toNat s5) (([] : List Int), ([] : List Int)))))) 2 none) :: (.d (.int .i64 (((0 + (List.length (setG (List.getD x0.1 (Int.toNat s5) (([] : List Int), ([] : List Int)))))) : Nat) : Int))) :: (.d (.int .i64 (0))) :: tp30 [])), [(.cells [(.d (.sl (.pair (.sl (.int .i64)) (.sl (.int .i64))) x0.1)), (.d (.sl (.int .i64) x0.2))]), (.keys .str b1), (.arr (.pair (.sl (.pair .str .str)) (.int .i64)) b2 true), (.arr (.pair .str .str) (setG (List.getD x0.1 (Int.toNat s5) (([] : List Int), ([] : List Int)))) true)])]) (by kernel_rfl) (M.run_of_path _ [tT, tT, tT, tT, tT, tT, tT, tT, tT, tT, fF, fF, tT, tT, tT, tT, tT, tT] _ _ (by kernel_rfl) (all_t c0 (all_t c0 (all_t c0 (all_t c3 (all_t c4 (all_t c0 (all_t rfl (all_t c7 (all_t rfl (all_t c9 (all_f c10 (all_f c12 (all_t c13 (all_t rfl (all_t (show decide ((0 + (List.length ((setG (List.getD x0.1 (Int.toNat s5) (([] : List Int), ([] : List Int))))))) ≤ (List.length ((setG (List.getD x0.1 (Int.toNat s5) (([] : List Int), ([] : List Int))))))) = true from decide_eq_true (Nat.le_of_eq (Nat.zero_add _))) (all_t rfl (all_t c17 (all_t (show decide ((List.length b2) = (List.length b2)) = true from decide_eq_true rfl) all_nil))))))))))))))))))) ?_
            intro p hp p2 hq
            rcases List.mem_cons.1 hp with rfl | hp
            · skip
              have h3 := l14_1_ok m (m + 24) x0 s5 b1 b2 (([] : Q4)) ((((0 + (List.length (setG (List.getD x0.1 (Int.toNat s5) (([] : List Int), ([] : List Int)))))) : Nat) : Int)) 0 ((setG (List.getD x0.1 (Int.toNat s5) (([] : List Int), ([] : List Int))))) _ (some_getD (d := l14_1D) c11)
              have h3 := turns_eq (e := (.top :: (.ptr 0 0) :: .top :: (.mp 1) :: (.sr 2 0 (List.length b2) 2 none) :: (.d (.int .i64 s5)) :: (.sr 3 0 (0 + (List.length (setG (List.getD x0.1 (Int.toNat s5) (([] : List Int), ([] : List Int)))))) 2 none) :: .top :: (.d (.str ([] : Q4))) :: tp40 ((.sr 3 0 (0 + (List.length (setG (List.getD x0.1 (Int.toNat s5) (([] : List Int), ([] : List Int)))))) 2 none) :: (.d (.int .i64 (((0 + (List.length (setG (List.getD x0.1 (Int.toNat s5) (([] : List Int), ([] : List Int)))))) : Nat) : Int))) :: (.d (.int .i64 (0))) :: tp30 []))) (B := [(.cells [(.d (.sl (.pair (.sl (.int .i64)) (.sl (.int .i64))) x0.1)), (.d (.sl (.int .i64) x0.2))]), (.keys .str b1), (.arr (.pair (.sl (.pair .str .str)) (.int .i64)) b2 true), (.arr (.pair .str .str) (setG (List.getD x0.1 (Int.toNat s5) (([] : List Int), ([] : List Int)))) true)]) (by unfold l14_1H; (try rw [show (0 + (List.length (setG (List.getD x0.1 (Int.toNat s5) (([] : List Int), ([] : List Int)))))) = (List.length (setG (List.getD x0.1 (Int.toNat s5) (([] : List Int), ([] : List Int))))) from by simp]); (try simp only [Nat.zero_add, List.length_nil])) rfl h3
              exact Eq.trans (Eq.mp (by kernel_rfl) h3) hq
            cases hp
          refine turns_step ht (turns_eq ?_ ?_ ih)
          · unfold l14_0H
            first | (simp; done) | (simp [Nat.add_assoc]; done) | (simp; omega)
          · unfold l14_0B
            simp
    · skip
      cases h
      refine turns_last (by simp) ?_
      exact M.run_of_path _ [tT, tT, tT, fF] _ _ (by kernel_rfl) (all_t c0 (all_t c0 (all_t c0 (all_f c3 all_nil))))
  · skip
    cases h
    refine turns_last (by simp) ?_
    exact M.run_of_path _ [fF, fF, fF, fF] _ _ (by kernel_rfl) (all_f c0 (all_f c0 (all_f c0 (all_f Bool.false_ne_true all_nil))))
theorem l14_0_ok (m : Nat) : ∀ (n : Nat) (x0 : Q1) (s5 : Int) (b1 : Q3) (b2 : Q0) (q : Nat × Int × (Q3) × (Q0)), l14_0 m n x0 s5 b1 b2 = some q → (turns (hds 14 58) 0 58 (cb7 m) n (l14_0H x0 s5 b1 b2) (l14_0B x0 s5 b1 b2)).run = some (l14_0E (x0) (q.2.1) (q.2.2.1) (q.2.2.2) q.1)
  | 0, x0, s5, b1, b2, q, h => by cases h
  | n + 1, x0, s5, b1, b2, q, h => l14_0_step m n (l14_0_ok m n) x0 s5 b1 b2 q h

def p14 (m : Nat) (x0 : Q1) : Option ((Q0)) :=
  if (Option.isSome (l14_0 m (m + 24) x0 0 (([] : Q3)) (([] : Q0)))) = true then
  if ((l14_0R m (m + 24) x0 0 (([] : Q3)) (([] : Q0))).1 == 0) = true then
    some ((List.take (List.length (l14_0R m (m + 24) x0 0 (([] : Q3)) (([] : Q0))).2.2.2) (List.drop 0 (l14_0R m (m + 24) x0 0 (([] : Q3)) (([] : Q0))).2.2.2)))
  else
    if ((l14_0R m (m + 24) x0 0 (([] : Q3)) (([] : Q0))).1 == 1) = true then
    some ((List.take (List.length (l14_0R m (m + 24) x0 0 (([] : Q3)) (([] : Q0))).2.2.2) (List.drop 0 (l14_0R m (m + 24) x0 0 (([] : Q3)) (([] : Q0))).2.2.2)))
    else none
  else none
theorem p14_ok (m : Nat) (x0 : Q1) (q : (Q0)) (h : p14 m x0 = some q) : ∃ r B1, (evCall F S14 (m + 25) 14 [(.agg [(.d (.sl (.pair (.sl (.int .i64)) (.sl (.int .i64))) x0.1)), (.d (.sl (.int .i64) x0.2))])] []).run = some (r, B1) ∧ 0 ≤ B1.length ∧ wkR B1 [] r (.d (.sl (.pair (.sl (.pair .str .str)) (.int .i64)) q)) ∧ wkBs B1 [] 0 [] := by
  unfold p14 at h
  obtain ⟨c0, h⟩ := iY h
  refine ite_cases h (fun c1 h => ?_) (fun c1 h => ?_)
  · skip
    cases h
    refine ⟨(.d (.sl (.pair (.sl (.pair .str .str)) (.int .i64)) (List.take (List.length (l14_0R m (m + 24) x0 0 (([] : Q3)) (([] : Q0))).2.2.2) (List.drop 0 (l14_0R m (m + 24) x0 0 (([] : Q3)) (([] : Q0))).2.2.2)))), [], runT_ok (LS := (fun k => if k = 58 then some (l14_0E x0 ((l14_0R m (m + 24) x0 0 (([] : Q3)) (([] : Q0))).2.1) ((l14_0R m (m + 24) x0 0 (([] : Q3)) (([] : Q0))).2.2.1) ((l14_0R m (m + 24) x0 0 (([] : Q3)) (([] : Q0))).2.2.2) 0) else none)) (fn := fn14) (vis := [(58, l14_0H x0 0 (([] : Q3)) (([] : Q0)), l14_0B x0 0 (([] : Q3)) (([] : Q0)))]) (by kernel_rfl) rfl (by kernel_rfl) (M.run_of_path _ [tT] _ _ (by kernel_rfl) (all_t (show decide ((0 + (List.length (l14_0R m (m + 24) x0 0 (([] : Q3)) (([] : Q0))).2.2.2)) ≤ (List.length (l14_0R m (m + 24) x0 0 (([] : Q3)) (([] : Q0))).2.2.2)) = true from decide_eq_true (Nat.le_of_eq (Nat.zero_add _))) all_nil)) ?_, by simp, (wkR.one (wkV.one (wk1.eq rfl))), trivial⟩
    intro p hp p2 hq
    rcases List.mem_cons.1 hp with rfl | hp
    · skip
      have h3 := l14_0_ok m (m + 24) x0 0 (([] : Q3)) (([] : Q0)) _ (some_getD (d := l14_0D) c0)
      rw [eq_of_beq c1] at h3
      exact Eq.trans (Eq.mp (by kernel_rfl) h3) hq
    cases hp
  · skip
    obtain ⟨c2, h⟩ := iY h
    cases h
    refine ⟨(.d (.sl (.pair (.sl (.pair .str .str)) (.int .i64)) (List.take (List.length (l14_0R m (m + 24) x0 0 (([] : Q3)) (([] : Q0))).2.2.2) (List.drop 0 (l14_0R m (m + 24) x0 0 (([] : Q3)) (([] : Q0))).2.2.2)))), [], runT_ok (LS := (fun k => if k = 58 then some (l14_0E x0 ((l14_0R m (m + 24) x0 0 (([] : Q3)) (([] : Q0))).2.1) ((l14_0R m (m + 24) x0 0 (([] : Q3)) (([] : Q0))).2.2.1) ((l14_0R m (m + 24) x0 0 (([] : Q3)) (([] : Q0))).2.2.2) 1) else none)) (fn := fn14) (vis := [(58, l14_0H x0 0 (([] : Q3)) (([] : Q0)), l14_0B x0 0 (([] : Q3)) (([] : Q0)))]) (by kernel_rfl) rfl (by kernel_rfl) (M.run_of_path _ [tT] _ _ (by kernel_rfl) (all_t (show decide ((0 + (List.length (l14_0R m (m + 24) x0 0 (([] : Q3)) (([] : Q0))).2.2.2)) ≤ (List.length (l14_0R m (m + 24) x0 0 (([] : Q3)) (([] : Q0))).2.2.2)) = true from decide_eq_true (Nat.le_of_eq (Nat.zero_add _))) all_nil)) ?_, by simp, (wkR.one (wkV.one (wk1.eq rfl))), trivial⟩
    intro p hp p2 hq
    rcases List.mem_cons.1 hp with rfl | hp
    · skip
      have h3 := l14_0_ok m (m + 24) x0 0 (([] : Q3)) (([] : Q0)) _ (some_getD (d := l14_0D) c0)
      rw [eq_of_beq c2] at h3
      exact Eq.trans (Eq.mp (by kernel_rfl) h3) hq
    cases hp

abbrev PT1 := LB × Int
abbrev VL := List PT1
def oddG (v : Int) : Bool := ((IntKind.wrap .i64 ((((BitVec.ofInt 64 v &&& BitVec.ofInt 64 (1)).toNat : Nat) : Int))) == (1))
def vname (v : Int) : Q4 := (List.map (fun (n : Int) => UInt8.ofNat n.toNat) [(IntKind.wrap .u8 (IntKind.wrap .i64 ((109) + (withinI (IntKind.wrap .i64 (Int.tdiv v (2))) (0) (2)))))])
def ptSet (k : List Int × List Int) (v : Int) : LB := setG k ++ (if oddG v then [(([110, 97, 109, 101] : Q4), vname v)] else [])
def keyS : LB → Q4
  | [] => []
  | x :: r => (((x.1 ++ ([61] : Q4)) ++ x.2) ++ ([59] : Q4)) ++ keyS r
def vecGo (vals : List Int) : Nat → List (List Int × List Int) → Q3 → VL → VL
  | _, [], _, out => out
  | i, k :: ks, keys, out => if hasKey .str keys (keyS (ptSet k (pickG vals ((i : Nat) : Int)))) = true then vecGo vals (i + 1) ks keys out
    else vecGo vals (i + 1) ks (addKey .str keys (keyS (ptSet k (pickG vals ((i : Nat) : Int))))) (out ++ [(ptSet k (pickG vals ((i : Nat) : Int)), withinI (pickG vals ((i + 3 : Nat) : Int)) (-9) (20))])
def vecG (k : (List (List Int × List Int)) × List Int) : VL := vecGo k.2 0 (k.1.take 8) [] []
theorem valG_in (l : List Int) (i : Int) : valG l i ∈ valuesG := by
  unfold valG
  refine getD_mem valuesG _ _ ?_
  have : 0 ≤ withinI (pickG l i) (0) (7) ∧ withinI (pickG l i) (0) (7) < 8 := by unfold withinI; omega
  show _ < 8
  omega
theorem val_len {v : Q4} (h : v ∈ valuesG) : 1 ≤ v.length ∧ v.length ≤ 3 := by
  have : ∀ v ∈ valuesG, 1 ≤ v.length ∧ v.length ≤ 3 := by decide
  exact this v h
def set4 (h0 h1 h2 h3 : Bool) (v0 v1 v2 v3 : Q4) : LB := (if h0 then [(([97] : Q4), v0)] else []) ++ (if h1 then [(([98] : Q4), v1)] else []) ++ (if h2 then [(([99] : Q4), v2)] else []) ++ (if h3 then [(([110, 97, 109, 101] : Q4), v3)] else [])
theorem pt_set4 (k : List Int × List Int) (v : Int) : ∃ h0 h1 h2 h3 v0 v1 v2 v3, ptSet k v = set4 h0 h1 h2 h3 v0 v1 v2 v3 ∧ (1 ≤ v0.length ∧ v0.length ≤ 3) ∧ (1 ≤ v1.length ∧ v1.length ≤ 3) ∧ (1 ≤ v2.length ∧ v2.length ≤ 3) ∧ (1 ≤ v3.length ∧ v3.length ≤ 3) := by
  refine ⟨bit1 k.1 0 0, bit1 k.1 1 1, bit1 k.1 2 2, oddG v, valG k.2 0, valG k.2 1, valG k.2 2, vname v, rfl, val_len (valG_in ..), val_len (valG_in ..), val_len (valG_in ..), ?_⟩
  unfold vname
  simp
theorem set4_len (h0 h1 h2 h3 : Bool) (v0 v1 v2 v3 : Q4) : (set4 h0 h1 h2 h3 v0 v1 v2 v3).length ≤ 4 := by
  cases h0 <;> cases h1 <;> cases h2 <;> cases h3 <;> simp [set4]
theorem set4_small {h0 h1 h2 h3 : Bool} {v0 v1 v2 v3 : Q4} (a0 : 1 ≤ v0.length ∧ v0.length ≤ 3) (a1 : 1 ≤ v1.length ∧ v1.length ≤ 3) (a2 : 1 ≤ v2.length ∧ v2.length ≤ 3) (a3 : 1 ≤ v3.length ∧ v3.length ≤ 3) : ∀ x ∈ set4 h0 h1 h2 h3 v0 v1 v2 v3, x.1.length ≤ 4 ∧ x.2.length ≤ 3 := by
  intro x hx
  unfold set4 at hx
  simp only [List.mem_append] at hx
  have one : ∀ (h : Bool) (n v : Q4), x ∈ (if h then [(n, v)] else []) → x = (n, v) := fun h n v q => by
    cases h with
    | false => simp at q
    | true => simpa using q
  rcases hx with ((hx | hx) | hx) | hx <;> rw [one _ _ _ hx] <;> simp <;> omega
theorem key_loop (m : Nat) (x0 : (List (List Int × List Int)) × List Int) (s5 : Int) (b1 : Q3) (b2 : VL) (b : LB) (hl : b.length ≤ 4) (hx : ∀ x ∈ b, x.1.length ≤ 4 ∧ x.2.length ≤ 3) : ∀ (n k : Nat) (acc : Q4), k ≤ b.length → b.length - k < n → acc.length ≤ 9 * k →
    ∃ j, l14_1 m n x0 s5 b1 b2 acc ((b.length : Nat) : Int) (k : Nat) b = some (0, acc ++ keyS (b.drop k), j)
  | 0, k, acc, _, h, _ => by omega
  | n + 1, k, acc, h1, h2, h3 => by
    rw [l14_1]
    by_cases hk : k < b.length
    · have e1 : decide (((k : Nat) : Int) < (((List.length b) : Nat) : Int)) = true := decide_eq_true (by omega)
      have e2 : decide ((0 : Int) ≤ ((k : Nat) : Int)) = true := decide_eq_true (by omega)
      have e3 : decide (0 + k < List.length b) = true := decide_eq_true (by omega)
      have e7 : IntKind.wrap .i64 (((k : Nat) : Int) + (1)) = ((k + 1 : Nat) : Int) := by rw [wrap_id (by omega) (by omega)]; rfl
      have hq := hx _ (getD_mem b k (([] : Q4), ([] : Q4)) hk)
      rw [drop_getD b k (([] : Q4), ([] : Q4)) hk, Int.toNat_natCast, e7, if_pos e1, if_pos e2, if_pos e1, if_pos e3, Nat.zero_add]
      generalize b.getD k (([] : Q4), ([] : Q4)) = q at hq
      rw [if_pos (decide_eq_true (by omega)), if_pos (decide_eq_true (by simp; omega)), if_pos (decide_eq_true (by simp; omega)), if_pos (decide_eq_true (by simp; omega))]
      obtain ⟨j, hj⟩ := key_loop m x0 s5 b1 b2 b hl hx n (k + 1) ((((acc ++ q.1) ++ ([61] : Q4)) ++ q.2) ++ ([59] : Q4)) (by omega) (by omega) (by simp; omega)
      refine ⟨j, hj.trans ?_⟩
      simp [keyS]
    · have e1 : decide (((k : Nat) : Int) < (((List.length b) : Nat) : Int)) = false := decide_eq_false (by omega)
      rw [e1, if_neg (by simp), List.drop_eq_nil_of_le (by omega)]
      exact ⟨(k : Nat), by simp [keyS]⟩
theorem vec_loop (m : Nat) (x0 : (List (List Int × List Int)) × List Int) : ∀ (n i : Nat) (keys : Q3) (out : VL), i ≤ x0.1.length → i ≤ 8 → 8 - i < n → out.length ≤ i →
    ∃ e j ks, l14_0 m n x0 (i : Nat) keys out = some (e, j, ks, vecGo x0.2 i ((x0.1.take 8).drop i) keys out) ∧ (e = 0 ∨ e = 1)
  | 0, i, keys, out, _, _, h, _ => by omega
  | n + 1, i, keys, out, h1, h2, h3, h4 => by
    rw [l14_0]
    by_cases hi : i < x0.1.length
    · have e1 : decide (((i : Nat) : Int) < (((List.length x0.1) : Nat) : Int)) = true := decide_eq_true (by omega)
      by_cases hj : i < 8
      · have e2 : decide (((i : Nat) : Int) < 8) = true := decide_eq_true (by omega)
        have e3 : decide ((0 : Int) ≤ ((i : Nat) : Int)) = true := decide_eq_true (by omega)
        have e7 : IntKind.wrap .i64 (((i : Nat) : Int) + (1)) = ((i + 1 : Nat) : Int) := by rw [wrap_id (by omega) (by omega)]; rfl
        have e8 : IntKind.wrap .i64 (((i : Nat) : Int) + (3)) = ((i + 3 : Nat) : Int) := by rw [wrap_id (by omega) (by omega)]; rfl
        have p1 : pickPre x0.2 ((i : Nat) : Int) = true := decide_eq_true (by omega)
        have p2 : pickPre x0.2 ((i + 3 : Nat) : Int) = true := decide_eq_true (by omega)
        have e4 : decide ((((List.length out) + 1) * 32) ≤ 70368744177664) = true := decide_eq_true (by omega)
        have hd : (x0.1.take 8).drop i = x0.1.getD i (([] : List Int), ([] : List Int)) :: (x0.1.take 8).drop (i + 1) := by
          rw [drop_getD (x0.1.take 8) i (([] : List Int), ([] : List Int)) (by rw [List.length_take]; omega)]
          congr 1
          rw [List.getD_eq_getElem?_getD, List.getD_eq_getElem?_getD, List.getElem?_take_of_lt hj]
        rw [hd, vecGo, Int.toNat_natCast, e7, e8, if_pos e1, if_pos e2, if_pos e3, if_pos p1, if_pos p2, if_pos e4]
        obtain ⟨a0, a1, a2, a3, v0, v1, v2, v3, q1, q2, q3, q4, q5⟩ := pt_set4 (x0.1.getD i (([] : List Int), ([] : List Int))) (pickG x0.2 ((i : Nat) : Int))
        have hlen : (ptSet (x0.1.getD i (([] : List Int), ([] : List Int))) (pickG x0.2 ((i : Nat) : Int))).length ≤ 4 := by rw [q1]; exact set4_len ..
        have hsm : ∀ x ∈ ptSet (x0.1.getD i (([] : List Int), ([] : List Int))) (pickG x0.2 ((i : Nat) : Int)), x.1.length ≤ 4 ∧ x.2.length ≤ 3 := by rw [q1]; exact set4_small q2 q3 q4 q5
        clear q1
        generalize hS : ptSet (x0.1.getD i (([] : List Int), ([] : List Int))) (pickG x0.2 ((i : Nat) : Int)) = S at hlen hsm
        obtain ⟨j, hk⟩ := key_loop m x0 ((i : Nat) : Int) keys out S hlen hsm (m + 24) 0 [] (by omega) (by omega) (by simp)
        rw [List.drop_zero, List.nil_append, Int.natCast_zero] at hk
        have ih := fun ks' out' q => vec_loop m x0 n (i + 1) ks' out' (by omega) (by omega) (by omega) q
        by_cases ho : oddG (pickG x0.2 ((i : Nat) : Int)) = true
        · have ho' : ((IntKind.wrap .i64 ((((BitVec.ofInt 64 (pickG x0.2 ((i : Nat) : Int)) &&& BitVec.ofInt 64 (1)).toNat : Nat) : Int))) == (1)) = true := ho
          have hS' : (setG (x0.1.getD i (([] : List Int), ([] : List Int)))) ++ [(([110, 97, 109, 101] : Q4), (List.map (fun (n : Int) => UInt8.ofNat n.toNat) [(IntKind.wrap .u8 (IntKind.wrap .i64 ((109) + (withinI (IntKind.wrap .i64 (Int.tdiv (pickG x0.2 ((i : Nat) : Int)) (2))) (0) (2)))))]))] = S := by
            rw [← hS]; unfold ptSet; rw [if_pos ho]; rfl
          have hl : (setG (x0.1.getD i (([] : List Int), ([] : List Int)))).length + 1 = S.length := by rw [← hS']; simp
          have z1 : (((0 + (List.length (setG (x0.1.getD i (([] : List Int), ([] : List Int)))))) + 1 : Nat) : Int) = ((S.length : Nat) : Int) := by rw [Nat.zero_add, hl]
          rw [if_pos (decide_eq_true (by omega)), if_pos ho', if_pos (decide_eq_true (by omega)), if_pos (decide_eq_true (by omega)), hS', z1]
          unfold l14_1R
          rw [hk]
          simp only [Option.isSome_some, Option.getD_some, ↓reduceIte, List.drop_zero, List.take_length]
          by_cases hh : hasKey .str keys (keyS S) = true
          · rw [if_pos hh, if_pos hh]
            exact ih keys out (by omega)
          · rw [if_neg hh, if_neg hh]
            refine ih _ _ ?_
            rw [List.length_append, List.length_singleton]; omega
        · have ho' : ¬ ((IntKind.wrap .i64 ((((BitVec.ofInt 64 (pickG x0.2 ((i : Nat) : Int)) &&& BitVec.ofInt 64 (1)).toNat : Nat) : Int))) == (1)) = true := ho
          have hS' : setG (x0.1.getD i (([] : List Int), ([] : List Int))) = S := by
            rw [← hS]; unfold ptSet; rw [if_neg ho, List.append_nil]
          have z1 : ((0 + S.length : Nat) : Int) = ((S.length : Nat) : Int) := by rw [Nat.zero_add]
          rw [hS', if_pos (decide_eq_true (by omega)), if_neg ho', z1]
          unfold l14_1R
          rw [hk]
          simp only [Option.isSome_some, Option.getD_some, ↓reduceIte, List.drop_zero, List.take_length]
          by_cases hh : hasKey .str keys (keyS S) = true
          · rw [if_pos hh, if_pos hh]
            exact ih keys out (by omega)
          · rw [if_neg hh, if_neg hh, if_pos p2, if_pos e4]
            refine ih _ _ ?_
            rw [List.length_append, List.length_singleton]; omega
      · have e2 : decide (((i : Nat) : Int) < 8) = false := decide_eq_false (by omega)
        rw [if_pos e1, e2, if_neg (by simp), List.drop_eq_nil_of_le (by rw [List.length_take]; omega)]
        exact ⟨0, _, _, rfl, .inl rfl⟩
    · have e1 : decide (((i : Nat) : Int) < (((List.length x0.1) : Nat) : Int)) = false := decide_eq_false (by omega)
      rw [e1, if_neg (by simp), List.drop_eq_nil_of_le (by rw [List.length_take]; omega)]
      exact ⟨1, _, _, rfl, .inr rfl⟩
theorem vec14 (k : (List (List Int × List Int)) × List Int) (_ : true = true) : ∃ m, p14 m k = some (vecG k) := by
  refine ⟨0, ?_⟩
  obtain ⟨e, j, ks, hr, he⟩ := vec_loop 0 k (0 + 24) 0 [] [] (by omega) (by omega) (by omega) (by simp)
  rw [Int.natCast_zero, List.drop_zero] at hr
  unfold p14 l14_0R vecG
  rw [hr]
  rcases he with rfl | rfl <;> simp
def s14 : List AV → Boxes → M (AV × Boxes) := normS [.val (.pair (.sl (.pair (.sl (.int .i64)) (.sl (.int .i64)))) (.sl (.int .i64)))] [] fun xs B => match xs, B with
  | [(.agg [(.d (.sl (.pair (.sl (.int .i64)) (.sl (.int .i64))) c1)), (.d (.sl (.int .i64) c2))])], [] => .chk (true) (.ret ((.d (.sl (.pair (.sl (.pair .str .str)) (.int .i64)) (vecG ((c1, c2))))), []))
  | _, _ => .fail
theorem s14_at : CallAt Tryd.prog 14 s14 := by
  refine CallAt.norm (CallAt.weakE (g := fun n => evCall F S14 n 14) (fun n => evCall_atH mixed kinds hds S14 S14_ok n 14) fun xs B r' B' hr => ?_) _ _
  split at hr
  · rename_i c1 c2
    obtain ⟨hp, hr⟩ := (M.run_chk _ _ _).1 hr
    simp only [M.run, Option.some.injEq, Prod.mk.injEq] at hr
    obtain ⟨rfl, rfl⟩ := hr
    obtain ⟨m, hm⟩ := vec14 ((c1, c2)) hp
    obtain ⟨r, B1, h1, h2, h3, h4⟩ := p14_ok m ((c1, c2)) _ hm
    exact ⟨m + 25, r, B1, h1, by simp, h2, h3, h4⟩
  · simp [M.run] at hr
noncomputable def S15 : FuncId → Option (List AV → Boxes → M (AV × Boxes)) := fun f => if f = 14 then some s14 else S14 f
theorem S15_ok : ∀ f s, S15 f = some s → CallAt Tryd.prog f s := by
  intro f s h
  unfold S15 at h
  split at h
  · rename_i e; subst e; cases h; exact s14_at
  · exact S14_ok f s h

end Go.Proofs.YtahdcmicifokgaaDoor.Dec
namespace Go.Proofs.YtahdcmicifokgaaDoor.Dec
open Go.Ev
set_option linter.unusedVariables false
set_option linter.unusedSimpArgs false
set_option maxRecDepth 100000
set_option maxHeartbeats 20000000
noncomputable def fn83 : AFn := (F 83).getD ⟨0, [], .bad, false, false, noHd⟩
noncomputable def body83 : AC := fn83.body
def l83_1 (m : Nat) : Nat → Int → Int → Int → Q0 → Option (Nat × Int × (Q0))
  | 0, _, _, _, _ => none
  | n + 1, s2, s8, s9', b0' => if decide (s9' > 0) = true then
      if decide (0 ≤ s9') = true then
      if decide (s9' < (((List.length b0') : Nat) : Int)) = true then
      if decide ((0 + (Int.toNat s9')) < (List.length b0')) = true then
      if decide (0 ≤ (IntKind.wrap .i64 (s9' - (1)))) = true then
      if decide ((IntKind.wrap .i64 (s9' - (1))) < (((List.length b0') : Nat) : Int)) = true then
      if decide ((0 + (Int.toNat (IntKind.wrap .i64 (s9' - (1))))) < (List.length b0')) = true then
      if lrightPre (List.getD b0' (0 + (Int.toNat s9')) (([] : Q2), 0)).1 = true then
      if lrightPre (List.getD b0' (0 + (Int.toNat (IntKind.wrap .i64 (s9' - (1))))) (([] : Q2), 0)).1 = true then
      if decide ((Lib.compareBytes (lprintG (List.getD b0' (0 + (Int.toNat s9')) (([] : Q2), 0)).1) (lprintG (List.getD b0' (0 + (Int.toNat (IntKind.wrap .i64 (s9' - (1))))) (([] : Q2), 0)).1)) < 0) = true then
        if decide ((0 + (Int.toNat (IntKind.wrap .i64 (s9' - (1))))) < (List.length (List.set b0' (0 + (Int.toNat s9')) (List.getD b0' (0 + (Int.toNat (IntKind.wrap .i64 (s9' - (1))))) (([] : Q2), 0))))) = true then
        l83_1 m n s2 s8 ((IntKind.wrap .i64 (s9' - (1)))) ((List.set (List.set b0' (0 + (Int.toNat s9')) (List.getD b0' (0 + (Int.toNat (IntKind.wrap .i64 (s9' - (1))))) (([] : Q2), 0))) (0 + (Int.toNat (IntKind.wrap .i64 (s9' - (1))))) (List.getD b0' (0 + (Int.toNat s9')) (([] : Q2), 0))))
        else none
      else
        some (0, s9', b0')
      else none
      else none
      else none
      else none
      else none
      else none
      else none
      else none
    else
      some (1, s9', b0')
def l83_1D : Nat × Int × (Q0) := (0, 0, [])
@[reducible] def l83_1R (m n : Nat) (s2 : Int) (s8 : Int) (s9' : Int) (b0' : Q0) : Nat × Int × (Q0) := Option.getD (l83_1 m n s2 s8 s9' b0') l83_1D
def l83_1H (s2 : Int) (s8 : Int) (s9' : Int) (b0' : Q0) : Env := ((.sr 0 0 (List.length b0') 2 none) :: (.d (.int .i64 (0))) :: (.d (.int .i64 s2)) :: (.fn 45 []) :: .top :: .top :: .top :: .top :: (.d (.int .i64 s8)) :: (.d (.int .i64 s9')) :: tp43 [])
def l83_1B (s2 : Int) (s8 : Int) (s9' : Int) (b0' : Q0) : Boxes := [(.arr (.pair (.sl (.pair .str .str)) (.int .i64)) b0' true)]
def l83_1E (s2 : Int) (s8 : Int) (s9' : Int) (b0' : Q0) : Nat → AEx × Env × Boxes
  | 0 => (.exit 2, ((.sr 0 0 (List.length b0') 2 none) :: (.d (.int .i64 (0))) :: (.d (.int .i64 s2)) :: (.fn 45 []) :: .top :: .top :: .top :: .top :: (.d (.int .i64 s8)) :: (.d (.int .i64 s9')) :: tp8 ((.d (.int .i64 s9')) :: (.d (.int .i64 (0))) :: (.d (.bool (decide (s9' > 0)))) :: (.d (.bool (decide (s9' > 0)))) :: (.fn 45 []) :: (.sr 0 0 (List.length b0') 2 none) :: (.d (.int .i64 s9')) :: (.eptr 0 (0 + (Int.toNat s9')) 2 0) :: (.agg [(.d (.sl (.pair .str .str) (List.getD b0' (0 + (Int.toNat s9')) (([] : Q2), 0)).1)), (.d (.int .i64 (List.getD b0' (0 + (Int.toNat s9')) (([] : Q2), 0)).2))]) :: (.sr 0 0 (List.length b0') 2 none) :: (.d (.int .i64 s9')) :: (.d (.int .i64 (IntKind.wrap .i64 (s9' - (1))))) :: (.eptr 0 (0 + (Int.toNat (IntKind.wrap .i64 (s9' - (1))))) 2 0) :: (.agg [(.d (.sl (.pair .str .str) (List.getD b0' (0 + (Int.toNat (IntKind.wrap .i64 (s9' - (1))))) (([] : Q2), 0)).1)), (.d (.int .i64 (List.getD b0' (0 + (Int.toNat (IntKind.wrap .i64 (s9' - (1))))) (([] : Q2), 0)).2))]) :: (.d (.int .i64 (Lib.compareBytes (lprintG (List.getD b0' (0 + (Int.toNat s9')) (([] : Q2), 0)).1) (lprintG (List.getD b0' (0 + (Int.toNat (IntKind.wrap .i64 (s9' - (1))))) (([] : Q2), 0)).1)))) :: (.d (.bool (decide ((Lib.compareBytes (lprintG (List.getD b0' (0 + (Int.toNat s9')) (([] : Q2), 0)).1) (lprintG (List.getD b0' (0 + (Int.toNat (IntKind.wrap .i64 (s9' - (1))))) (([] : Q2), 0)).1)) < 0)))) :: (.d (.bool (decide ((Lib.compareBytes (lprintG (List.getD b0' (0 + (Int.toNat s9')) (([] : Q2), 0)).1) (lprintG (List.getD b0' (0 + (Int.toNat (IntKind.wrap .i64 (s9' - (1))))) (([] : Q2), 0)).1)) < 0)))) :: tp18 [])), [(.arr (.pair (.sl (.pair .str .str)) (.int .i64)) b0' true), .dead, .dead, .dead, .dead, .dead, .dead, .dead, .dead, .dead, .dead, .dead, .dead, .dead, .dead, .dead, .dead, .dead, .dead, .dead, .dead, .dead, .dead, .dead, .dead, .dead, .dead, .dead, .dead, .dead, .dead, .dead, .dead, .dead, .dead, .dead, .dead, .dead, .dead, .dead, .dead, .dead, .dead, .dead, .dead, .dead, .dead, .dead, .dead, .dead, .dead, .dead, .dead, .dead, .dead, .dead, .dead, .dead, .dead, .dead, .dead, .dead, .dead, .dead, .dead, .dead, .dead, .dead, .dead])
  | _ => (.exit 2, ((.sr 0 0 (List.length b0') 2 none) :: (.d (.int .i64 (0))) :: (.d (.int .i64 s2)) :: (.fn 45 []) :: .top :: .top :: .top :: .top :: (.d (.int .i64 s8)) :: (.d (.int .i64 s9')) :: tp8 ((.d (.int .i64 s9')) :: (.d (.int .i64 (0))) :: (.d (.bool (decide (s9' > 0)))) :: (.d (.bool (decide (s9' > 0)))) :: (.tup []) :: (.tup []) :: (.tup []) :: (.tup []) :: (.tup []) :: (.tup []) :: (.tup []) :: (.tup []) :: (.tup []) :: (.tup []) :: (.tup []) :: (.tup []) :: (.d (.bool false)) :: tp18 [])), [(.arr (.pair (.sl (.pair .str .str)) (.int .i64)) b0' true), .dead, .dead, .dead, .dead, .dead, .dead, .dead, .dead, .dead, .dead, .dead, .dead, .dead, .dead, .dead, .dead, .dead, .dead, .dead, .dead, .dead, .dead, .dead, .dead, .dead, .dead, .dead, .dead, .dead, .dead, .dead, .dead, .dead, .dead, .dead, .dead, .dead, .dead, .dead, .dead, .dead, .dead, .dead, .dead, .dead, .dead, .dead, .dead, .dead, .dead, .dead, .dead, .dead, .dead, .dead, .dead, .dead, .dead, .dead, .dead, .dead, .dead, .dead, .dead, .dead, .dead, .dead, .dead])
noncomputable def lbl83_1 : AC := loopBody 783 body83
@[reducible] noncomputable def cb8 (m : Nat) := (evC byref (evCall F S15 (m + 24)) (m + 24) 1 (hds 83) lbl83_1)


theorem l83_1_step (m n : Nat) (ih : ∀ (s2 : Int) (s8 : Int) (s9' : Int) (b0' : Q0) (q : Nat × Int × (Q0)), l83_1 m n s2 s8 s9' b0' = some q → (turns (hds 83 783) 1 783 (cb8 m) n (l83_1H s2 s8 s9' b0') (l83_1B s2 s8 s9' b0')).run = some (l83_1E (s2) (s8) (q.2.1) (q.2.2) q.1)) (s2 : Int) (s8 : Int) (s9' : Int) (b0' : Q0) (q : Nat × Int × (Q0)) (h : l83_1 m (n + 1) s2 s8 s9' b0' = some q) : (turns (hds 83 783) 1 783 (cb8 m) (n + 1) (l83_1H s2 s8 s9' b0') (l83_1B s2 s8 s9' b0')).run = some (l83_1E (s2) (s8) (q.2.1) (q.2.2) q.1) := by
  rw [l83_1] at h
  refine ite_cases h (fun c0 h => ?_) (fun c0 h => ?_)
  · skip
    obtain ⟨c4, h⟩ := iY h
    obtain ⟨c5, h⟩ := iY h
    obtain ⟨c7, h⟩ := iY h
    obtain ⟨c12, h⟩ := iY h
    obtain ⟨c13, h⟩ := iY h
    obtain ⟨c15, h⟩ := iY h
    obtain ⟨c17, h⟩ := iY h
    obtain ⟨c18, h⟩ := iY h
    refine ite_cases h (fun c22 h => ?_) (fun c22 h => ?_)
    · skip
      obtain ⟨c34, h⟩ := iY h
      have ih := ih _ _ _ _ q h
      have ht : (turn (hds 83 783) 1 783 (cb8 m) (l83_1H s2 s8 s9' b0') (l83_1B s2 s8 s9' b0')).run = some (.normal, ((.sr 0 0 (List.length b0') 2 none) :: (.d (.int .i64 (0))) :: (.d (.int .i64 s2)) :: (.fn 45 []) :: .top :: .top :: .top :: .top :: (.d (.int .i64 s8)) :: (.d (.int .i64 (IntKind.wrap .i64 (s9' - (1))))) :: tp43 []), [(.arr (.pair (.sl (.pair .str .str)) (.int .i64)) (List.set (List.set b0' (0 + (Int.toNat s9')) (List.getD b0' (0 + (Int.toNat (IntKind.wrap .i64 (s9' - (1))))) (([] : Q2), 0))) (0 + (Int.toNat (IntKind.wrap .i64 (s9' - (1))))) (List.getD b0' (0 + (Int.toNat s9')) (([] : Q2), 0))) true)]) := M.run_of_path _ [tT, tT, tT, tT, tT, tT, tT, tT, tT, tT, tT, tT, tT, tT, tT, tT, tT, tT, tT, tT, tT, tT, tT, tT, tT, tT, tT, tT, tT, tT, tT, tT, tT, tT, tT] _ _ (by kernel_rfl) (all_t c0 (all_t c0 (all_t c0 (all_t c0 (all_t c4 (all_t c5 (all_t c0 (all_t c7 (all_t c0 (all_t c0 (all_t c0 (all_t c0 (all_t c12 (all_t c13 (all_t c0 (all_t c15 (all_t c0 (all_t c17 (all_t c18 (all_t rfl (all_t c0 (all_t c0 (all_t c22 (all_t c12 (all_t c13 (all_t c15 (all_t c4 (all_t c5 (all_t c7 (all_t c4 (all_t c5 (all_t c7 (all_t c12 (all_t c13 (all_t c34 all_nil)))))))))))))))))))))))))))))))))))
      refine turns_step ht (turns_eq ?_ ?_ ih)
      · unfold l83_1H
        first | (simp; done) | (simp [Nat.add_assoc]; done) | (simp; omega)
      · unfold l83_1B
        simp
    · skip
      cases h
      refine turns_last (by simp) ?_
      exact M.run_of_path _ [tT, tT, tT, tT, tT, tT, tT, tT, tT, tT, tT, tT, tT, tT, tT, tT, tT, tT, tT, tT, tT, tT, fF] _ _ (by kernel_rfl) (all_t c0 (all_t c0 (all_t c0 (all_t c0 (all_t c4 (all_t c5 (all_t c0 (all_t c7 (all_t c0 (all_t c0 (all_t c0 (all_t c0 (all_t c12 (all_t c13 (all_t c0 (all_t c15 (all_t c0 (all_t c17 (all_t c18 (all_t rfl (all_t c0 (all_t c0 (all_f c22 all_nil)))))))))))))))))))))))
  · skip
    cases h
    refine turns_last (by simp) ?_
    exact M.run_of_path _ [fF, fF, fF, fF, fF, fF, fF, fF, fF, fF, fF, fF, fF, fF] _ _ (by kernel_rfl) (all_f c0 (all_f c0 (all_f c0 (all_f c0 (all_f c0 (all_f c0 (all_f c0 (all_f c0 (all_f c0 (all_f c0 (all_f c0 (all_f c0 (all_f c0 (all_f Bool.false_ne_true all_nil))))))))))))))
theorem l83_1_ok (m : Nat) : ∀ (n : Nat) (s2 : Int) (s8 : Int) (s9' : Int) (b0' : Q0) (q : Nat × Int × (Q0)), l83_1 m n s2 s8 s9' b0' = some q → (turns (hds 83 783) 1 783 (cb8 m) n (l83_1H s2 s8 s9' b0') (l83_1B s2 s8 s9' b0')).run = some (l83_1E (s2) (s8) (q.2.1) (q.2.2) q.1)
  | 0, s2, s8, s9', b0', q, h => by cases h
  | n + 1, s2, s8, s9', b0', q, h => l83_1_step m n (l83_1_ok m n) s2 s8 s9' b0' q h

def l83_0 (m : Nat) : Nat → Int → Int → Q0 → Option (Nat × Int × (Q0))
  | 0, _, _, _ => none
  | n + 1, s2, s8, b0 => if decide (s8 < s2) = true then
      if (Option.isSome (l83_1 m (m + 24) s2 s8 s8 b0)) = true then
      if ((l83_1R m (m + 24) s2 s8 s8 b0).1 == 0) = true then
        l83_0 m n s2 ((IntKind.wrap .i64 (s8 + (1)))) ((l83_1R m (m + 24) s2 s8 s8 b0).2.2)
      else
        if ((l83_1R m (m + 24) s2 s8 s8 b0).1 == 1) = true then
        l83_0 m n s2 ((IntKind.wrap .i64 (s8 + (1)))) ((l83_1R m (m + 24) s2 s8 s8 b0).2.2)
        else none
      else none
    else
      some (0, s8, b0)
def l83_0D : Nat × Int × (Q0) := (0, 0, [])
@[reducible] def l83_0R (m n : Nat) (s2 : Int) (s8 : Int) (b0 : Q0) : Nat × Int × (Q0) := Option.getD (l83_0 m n s2 s8 b0) l83_0D
def l83_0H (s2 : Int) (s8 : Int) (b0 : Q0) : Env := ((.sr 0 0 (List.length b0) 2 none) :: (.d (.int .i64 (0))) :: (.d (.int .i64 s2)) :: (.fn 45 []) :: .top :: .top :: .top :: .top :: (.d (.int .i64 s8)) :: tp44 [])
def l83_0B (s2 : Int) (s8 : Int) (b0 : Q0) : Boxes := [(.arr (.pair (.sl (.pair .str .str)) (.int .i64)) b0 true)]
def l83_0E (s2 : Int) (s8 : Int) (b0 : Q0) : Nat → AEx × Env × Boxes
  | _ => (.exit 0, ((.sr 0 0 (List.length b0) 2 none) :: (.d (.int .i64 (0))) :: (.d (.int .i64 s2)) :: (.fn 45 []) :: .top :: .top :: .top :: .top :: (.d (.int .i64 s8)) :: .top :: .top :: .top :: (.d (.int .i64 s8)) :: (.d (.int .i64 s2)) :: (.d (.bool (decide (s8 < s2)))) :: tp38 []), [(.arr (.pair (.sl (.pair .str .str)) (.int .i64)) b0 true)])
noncomputable def lbl83_0 : AC := loopBody 271 body83
@[reducible] noncomputable def cb9 (m : Nat) := (evC byref (evCall F S15 (m + 24)) (m + 24) 1 (hds 83) lbl83_0)


theorem l83_0_step (m n : Nat) (ih : ∀ (s2 : Int) (s8 : Int) (b0 : Q0) (q : Nat × Int × (Q0)), l83_0 m n s2 s8 b0 = some q → (turns (hds 83 271) 1 271 (cb9 m) n (l83_0H s2 s8 b0) (l83_0B s2 s8 b0)).run = some (l83_0E (s2) (q.2.1) (q.2.2) q.1)) (s2 : Int) (s8 : Int) (b0 : Q0) (q : Nat × Int × (Q0)) (h : l83_0 m (n + 1) s2 s8 b0 = some q) : (turns (hds 83 271) 1 271 (cb9 m) (n + 1) (l83_0H s2 s8 b0) (l83_0B s2 s8 b0)).run = some (l83_0E (s2) (q.2.1) (q.2.2) q.1) := by
  rw [l83_0] at h
  refine ite_cases h (fun c0 h => ?_) (fun c0 h => ?_)
  · skip
    obtain ⟨c1, h⟩ := iY h
    refine ite_cases h (fun c2 h => ?_) (fun c2 h => ?_)
    · skip
      have ih := ih _ _ _ q h
      refine turns_step ?_ ih
      refine turnT_ok (LS := (fun k => if k = 783 then some (l83_1E s2 s8 ((l83_1R m (m + 24) s2 s8 s8 b0).2.1) ((l83_1R m (m + 24) s2 s8 s8 b0).2.2) 0) else none)) (vis := [(783, l83_1H s2 s8 s8 b0, l83_1B s2 s8 s8 b0)]) (by kernel_rfl) (M.run_of_path _ [tT] _ _ (by kernel_rfl) (all_t c0 all_nil)) ?_
      intro p hp p2 hq
      rcases List.mem_cons.1 hp with rfl | hp
      · skip
        have h3 := l83_1_ok m (m + 24) s2 s8 s8 b0 _ (some_getD (d := l83_1D) c1)
        rw [eq_of_beq c2] at h3
        exact Eq.trans (Eq.mp (by kernel_rfl) h3) hq
      cases hp
    · skip
      obtain ⟨c3, h⟩ := iY h
      have ih := ih _ _ _ q h
      refine turns_step ?_ ih
      refine turnT_ok (LS := (fun k => if k = 783 then some (l83_1E s2 s8 ((l83_1R m (m + 24) s2 s8 s8 b0).2.1) ((l83_1R m (m + 24) s2 s8 s8 b0).2.2) 1) else none)) (vis := [(783, l83_1H s2 s8 s8 b0, l83_1B s2 s8 s8 b0)]) (by kernel_rfl) (M.run_of_path _ [tT] _ _ (by kernel_rfl) (all_t c0 all_nil)) ?_
      intro p hp p2 hq
      rcases List.mem_cons.1 hp with rfl | hp
      · skip
        have h3 := l83_1_ok m (m + 24) s2 s8 s8 b0 _ (some_getD (d := l83_1D) c1)
        rw [eq_of_beq c3] at h3
        exact Eq.trans (Eq.mp (by kernel_rfl) h3) hq
      cases hp
  · skip
    cases h
    refine turns_last (by simp) ?_
    exact M.run_of_path _ [fF] _ _ (by kernel_rfl) (all_f c0 all_nil)
theorem l83_0_ok (m : Nat) : ∀ (n : Nat) (s2 : Int) (s8 : Int) (b0 : Q0) (q : Nat × Int × (Q0)), l83_0 m n s2 s8 b0 = some q → (turns (hds 83 271) 1 271 (cb9 m) n (l83_0H s2 s8 b0) (l83_0B s2 s8 b0)).run = some (l83_0E (s2) (q.2.1) (q.2.2) q.1)
  | 0, s2, s8, b0, q, h => by cases h
  | n + 1, s2, s8, b0, q, h => l83_0_step m n (l83_0_ok m n) s2 s8 b0 q h

def p83 (m : Nat) (x0 : Q0) : Option (AV × Boxes) :=
  if (Option.isSome (l83_0 m (m + 24) ((((List.length x0) : Nat) : Int)) 1 x0)) = true then
  some ((.tup []), [(.arr (.pair (.sl (.pair .str .str)) (.int .i64)) (l83_0R m (m + 24) ((((List.length x0) : Nat) : Int)) 1 x0).2.2 true)])
  else none
theorem p83_ok (m : Nat) (x0 : Q0) (q : AV × Boxes) (h : p83 m x0 = some q) : (evCall F S15 (m + 25) 83 [(.sr 0 0 (List.length x0) 2 none), (.d (.int .i64 (0))), (.d (.int .i64 (((List.length x0) : Nat) : Int))), (.fn 45 [])] [(.arr (.pair (.sl (.pair .str .str)) (.int .i64)) x0 true)]).run = some q := by
  unfold p83 at h
  obtain ⟨c0, h⟩ := iY h
  cases h
  refine runT_ok (LS := (fun k => if k = 271 then some (l83_0E (((((List.length x0) : Nat) : Int))) ((l83_0R m (m + 24) ((((List.length x0) : Nat) : Int)) 1 x0).2.1) ((l83_0R m (m + 24) ((((List.length x0) : Nat) : Int)) 1 x0).2.2) 0) else none)) (fn := fn83) (r := (.tup [])) (B' := [(.arr (.pair (.sl (.pair .str .str)) (.int .i64)) (l83_0R m (m + 24) ((((List.length x0) : Nat) : Int)) 1 x0).2.2 true)]) (vis := [(271, l83_0H ((((List.length x0) : Nat) : Int)) 1 x0, l83_0B ((((List.length x0) : Nat) : Int)) 1 x0)]) (by kernel_rfl) rfl (by kernel_rfl) (M.run_of_path _ [] _ _ (by kernel_rfl) all_nil) ?_
  intro p hp p2 hq
  rcases List.mem_cons.1 hp with rfl | hp
  · skip
    have h3 := l83_0_ok m (m + 24) ((((List.length x0) : Nat) : Int)) 1 x0 _ (some_getD (d := l83_0D) c0)
    exact Eq.trans (Eq.mp (by kernel_rfl) h3) hq
  cases hp

def ltP (a b : PT1) : Bool := decide (Lib.compareBytes (lprintG a.1) (lprintG b.1) < 0)
def insR (x : PT1) : VL → VL
  | [] => [x]
  | y :: r => if ltP x y = true then y :: insR x r else x :: y :: r
def foldR (acc l : VL) : VL := l.foldl (fun a x => insR x a) acc
def sortG (l : VL) : VL := (foldR [] l).reverse
def sortPre (l : VL) : Bool := decide (l.length < 20 ∧ ∀ p ∈ l, lrightPre p.1 = true)
theorem mem_insR (x p : PT1) : ∀ r : VL, p ∈ insR x r ↔ p = x ∨ p ∈ r
  | [] => by simp [insR]
  | y :: r => by
    rw [insR]
    split
    · rw [List.mem_cons, mem_insR x p r, List.mem_cons]
      constructor
      · rintro (h | h | h)
        · exact .inr (.inl h)
        · exact .inl h
        · exact .inr (.inr h)
      · rintro (h | h | h)
        · exact .inr (.inl h)
        · exact .inl h
        · exact .inr (.inr h)
    · rw [List.mem_cons]
theorem len_insR (x : PT1) : ∀ r : VL, (insR x r).length = r.length + 1
  | [] => rfl
  | y :: r => by
    rw [insR]
    split
    · rw [List.length_cons, len_insR x r, List.length_cons]
    · rfl
theorem getD_mid {α : Type} (a s : List α) (x d : α) : (a ++ x :: s).getD a.length d = x := by
  rw [List.getD_eq_getElem?_getD, List.getElem?_append_right (Nat.le_refl _), Nat.sub_self]
  rfl
theorem set_mid {α : Type} (a s : List α) (x y : α) : (a ++ x :: s).set a.length y = a ++ y :: s := by
  rw [List.set_append_right _ _ (Nat.le_refl _), Nat.sub_self]
  rfl
theorem ins_loop (m : Nat) (s2 s8 : Int) : ∀ (n : Nat) (r : VL) (x : PT1) (suf b : VL), b = r.reverse ++ x :: suf → b.length < 20 → (∀ p ∈ b, lrightPre p.1 = true) → r.length < n →
    ∃ e j, l83_1 m n s2 s8 ((r.length : Nat) : Int) b = some (e, j, (insR x r).reverse ++ suf) ∧ (e = 0 ∨ e = 1)
  | 0, r, x, suf, b, _, _, _, h => by omega
  | n + 1, [], x, suf, b, hb, h1, h2, h3 => by
    rw [l83_1]
    have e1 : decide (((([] : VL).length : Nat) : Int) > 0) = false := decide_eq_false (by simp)
    rw [e1, if_neg (by simp)]
    exact ⟨1, _, by rw [hb]; rfl, .inr rfl⟩
  | n + 1, y :: r, x, suf, b, hb, h1, h2, h3 => by
    rw [l83_1]
    have hb2 : b = r.reverse ++ y :: (x :: suf) := by rw [hb]; simp
    have hb3 : b = (r.reverse ++ [y]) ++ x :: suf := by rw [hb]; simp
    have hl : b.length = r.length + 2 + suf.length := by rw [hb2]; simp; omega
    have e0 : ((y :: r : VL).length : Int) = ((r.length + 1 : Nat) : Int) := by simp
    have e1 : decide (((r.length + 1 : Nat) : Int) > 0) = true := decide_eq_true (by omega)
    have e2 : decide ((0 : Int) ≤ ((r.length + 1 : Nat) : Int)) = true := decide_eq_true (by omega)
    have e3 : decide (((r.length + 1 : Nat) : Int) < ((b.length : Nat) : Int)) = true := decide_eq_true (by omega)
    have e4 : decide (0 + (r.length + 1) < b.length) = true := decide_eq_true (by omega)
    have e5 : IntKind.wrap .i64 (((r.length + 1 : Nat) : Int) - (1)) = ((r.length : Nat) : Int) := by rw [wrap_id (by omega) (by omega)]; omega
    have e6 : decide ((0 : Int) ≤ ((r.length : Nat) : Int)) = true := decide_eq_true (by omega)
    have e7 : decide (((r.length : Nat) : Int) < ((b.length : Nat) : Int)) = true := decide_eq_true (by omega)
    have e8 : decide (0 + r.length < b.length) = true := decide_eq_true (by omega)
    have gx : b.getD (r.length + 1) (([] : LB), 0) = x := by
      have := getD_mid (r.reverse ++ [y]) suf x (([] : LB), 0)
      rw [← hb3] at this
      simpa using this
    have gy : b.getD r.length (([] : LB), 0) = y := by
      have := getD_mid r.reverse (x :: suf) y (([] : LB), 0)
      rw [← hb2] at this
      simpa using this
    have px : lrightPre x.1 = true := h2 x (by rw [hb2]; simp)
    have py : lrightPre y.1 = true := h2 y (by rw [hb2]; simp)
    have s1 : b.set (r.length + 1) y = (r.reverse ++ [y]) ++ y :: suf := by
      have := set_mid (r.reverse ++ [y]) suf x y
      rw [← hb3] at this
      simpa using this
    have s2' : ((r.reverse ++ [y]) ++ y :: suf).set r.length x = r.reverse ++ x :: (y :: suf) := by
      have := set_mid r.reverse (y :: suf) y x
      rw [List.length_reverse] at this
      rw [List.append_assoc]
      exact this
    rw [e0, e5, Int.toNat_natCast, Int.toNat_natCast, if_pos e1, if_pos e2, if_pos e3, if_pos e4, if_pos e6, if_pos e7, if_pos e8, Nat.zero_add, Nat.zero_add, gx, gy, if_pos px, if_pos py, insR]
    by_cases hc : Lib.compareBytes (lprintG x.1) (lprintG y.1) < 0
    · have hlt : ltP x y = true := decide_eq_true hc
      rw [if_pos (decide_eq_true hc), if_pos hlt, s1, s2', if_pos (decide_eq_true (by simp))]
      have hp : ∀ p, p ∈ r.reverse ++ x :: (y :: suf) → p ∈ b := fun p hp => by
        rw [hb2]
        simp only [List.mem_append, List.mem_cons] at hp ⊢
        rcases hp with h | h | h | h
        · exact .inl h
        · exact .inr (.inr (.inl h))
        · exact .inr (.inl h)
        · exact .inr (.inr (.inr h))
      obtain ⟨e, j, hr, he⟩ := ins_loop m s2 s8 n r x (y :: suf) _ rfl (by simp; omega) (fun p q => h2 p (hp p q)) (by simp at h3; omega)
      refine ⟨e, j, hr.trans ?_, he⟩
      simp
    · have hlt : ¬ ltP x y = true := by unfold ltP; simpa using hc
      rw [if_neg (by simpa using hc), if_neg hlt]
      exact ⟨0, ((r.length + 1 : Nat) : Int), by rw [hb]; simp, .inl rfl⟩
theorem sort_loop (m : Nat) (L : Int) : ∀ (n : Nat) (acc rest b : VL), b = acc.reverse ++ rest → b.length < 20 → (∀ p ∈ b, lrightPre p.1 = true) → ((b.length : Nat) : Int) = L → rest.length < n → 1 ≤ acc.length →
    ∃ j, l83_0 m n L ((acc.length : Nat) : Int) b = some (0, j, (foldR acc rest).reverse)
  | 0, acc, rest, b, _, _, _, _, h, _ => by omega
  | n + 1, acc, [], b, hb, h1, h2, h3, h4, h5 => by
    rw [l83_0]
    have e1 : decide (((acc.length : Nat) : Int) < L) = false := decide_eq_false (by rw [← h3, hb]; simp)
    rw [e1, if_neg (by simp)]
    exact ⟨((acc.length : Nat) : Int), by rw [hb]; simp [foldR]⟩
  | n + 1, acc, x :: rest, b, hb, h1, h2, h3, h4, h5 => by
    rw [l83_0]
    have hl : b.length = acc.length + 1 + rest.length := by rw [hb]; simp; omega
    have e1 : decide (((acc.length : Nat) : Int) < L) = true := decide_eq_true (by omega)
    have e5 : IntKind.wrap .i64 (((acc.length : Nat) : Int) + (1)) = ((acc.length + 1 : Nat) : Int) := by rw [wrap_id (by omega) (by omega)]; rfl
    obtain ⟨e, j, hr, he⟩ := ins_loop m L ((acc.length : Nat) : Int) (m + 24) acc x rest b hb h1 h2 (by omega)
    have hp : ∀ p, p ∈ (insR x acc).reverse ++ rest → p ∈ b := fun p hp => by
      rw [hb]
      simp only [List.mem_append, List.mem_reverse, mem_insR, List.mem_cons] at hp ⊢
      rcases hp with (h | h) | h
      · exact .inr (.inl h)
      · exact .inl h
      · exact .inr (.inr h)
    obtain ⟨j2, h6⟩ := sort_loop m L n (insR x acc) rest ((insR x acc).reverse ++ rest) rfl (by simp [len_insR]; omega) (fun p q => h2 p (hp p q)) (by rw [← h3]; simp [len_insR]; omega) (by simp at h4; omega) (by rw [len_insR]; omega)
    rw [len_insR] at h6
    refine ⟨j2, ?_⟩
    rw [if_pos e1, e5]
    unfold l83_1R
    rw [hr]
    rcases he with rfl | rfl
    · simp only [Option.isSome_some, Option.getD_some, ↓reduceIte, beq_self_eq_true]
      exact h6
    · have z : ((1 : Nat) == 0) = false := rfl
      simp only [Option.isSome_some, Option.getD_some, ↓reduceIte, beq_self_eq_true, z, Bool.false_eq_true]
      exact h6
theorem sort83 (l : VL) (h : sortPre l = true) : ∃ m, p83 m l = some (.tup [], [.arr (.pair (.sl (.pair .str .str)) (.int .i64)) (sortG l) true]) := by
  obtain ⟨h1, h2⟩ := of_decide_eq_true h
  refine ⟨0, ?_⟩
  unfold p83 l83_0R
  cases l with
  | nil => rfl
  | cons x r =>
    obtain ⟨j, hr⟩ := sort_loop 0 (((x :: r).length : Nat) : Int) (0 + 24) [x] r (x :: r) rfl h1 h2 rfl (by simp at h1; omega) (by simp)
    have hr' : l83_0 0 (0 + 24) (((x :: r).length : Nat) : Int) 1 (x :: r) = some (0, j, (foldR [x] r).reverse) := hr
    rw [hr']
    rfl
def s83 : List AV → Boxes → M (AV × Boxes) := fun xs B => match xs, B with
  | [.sr 0 0 n 2 none, .d (.int .i64 a), .d (.int .i64 b), .fn 45 []], [.arr (.pair (.sl (.pair .str .str)) (.int .i64)) l true] => .chk (decide (n = List.length l) && decide (a = 0) && decide (b = ((List.length l : Nat) : Int)) && sortPre l) (.ret (.tup [], [.arr (.pair (.sl (.pair .str .str)) (.int .i64)) (sortG l) true]))
  | _, _ => .fail
theorem s83_at : CallAt Tryd.prog 83 s83 := by
  intro xs B r' B' hr
  unfold s83 at hr
  split at hr
  · rename_i n a b l
    obtain ⟨hp, hr⟩ := (M.run_chk _ _ _).1 hr
    simp only [M.run, Option.some.injEq, Prod.mk.injEq] at hr
    obtain ⟨rfl, rfl⟩ := hr
    simp only [Bool.and_eq_true, decide_eq_true_eq] at hp
    obtain ⟨⟨⟨rfl, rfl⟩, rfl⟩, hp⟩ := hp
    obtain ⟨m, hm⟩ := sort83 l hp
    exact evCall_atH mixed kinds hds S15 S15_ok (m + 25) 83 _ _ _ _ (p83_ok m l _ hm)
  · simp [M.run] at hr

noncomputable def S16 : FuncId → Option (List AV → Boxes → M (AV × Boxes)) := fun f => if f = 83 then some s83 else S15 f
theorem S16_ok : ∀ f s, S16 f = some s → CallAt Tryd.prog f s := by
  intro f s h
  unfold S16 at h
  split at h
  · rename_i e; subst e; cases h; exact s83_at
  · exact S15_ok f s h

end Go.Proofs.YtahdcmicifokgaaDoor.Dec
namespace Go.Proofs.YtahdcmicifokgaaDoor.Dec
open Go.Ev
set_option linter.unusedVariables false
set_option linter.unusedSimpArgs false
set_option maxRecDepth 100000
set_option maxHeartbeats 20000000
noncomputable def fn65 : AFn := (F 65).getD ⟨0, [], .bad, false, false, noHd⟩
noncomputable def body65 : AC := fn65.body
noncomputable def lbu65_0 : AC := loopBody 455 body65
noncomputable def lbu65_1 : AC := loopBody 71 body65
def p65 (m : Nat) (x0 : Q0) : Option (AV × Boxes) :=
  if decide (20 ≤ (((List.length x0) : Nat) : Int)) = true then
    none
  else
    if (((decide ((List.length x0) = (List.length x0)) && decide ((0) = 0)) && decide ((((List.length x0) : Nat) : Int) = (((List.length x0) : Nat) : Int))) && sortPre x0) = true then
    if decide (20 < (((List.length x0) : Nat) : Int)) = true then
      none
    else
      some ((.tup []), [(.arr (.pair (.sl (.pair .str .str)) (.int .i64)) (sortG x0) true)])
    else none
theorem p65_ok (m : Nat) (x0 : Q0) (q : AV × Boxes) (h : p65 m x0 = some q) : (evCall F S16 (m + 25) 65 [(.sr 0 0 (List.length x0) 2 none), (.d (.int .i64 (((List.length x0) : Nat) : Int))), (.fn 45 [])] [(.arr (.pair (.sl (.pair .str .str)) (.int .i64)) x0 true)]).run = some q := by
  unfold p65 at h
  refine ite_cases h (fun _ h => by cases h) (fun c0 h => ?_)
  obtain ⟨c1, h⟩ := iY h
  refine ite_cases h (fun _ h => by cases h) (fun c2 h => ?_)
  cases h
  exact M.run_of_path _ [fF, tT, fF] _ _ (by kernel_rfl) (all_f c0 (all_t c1 (all_f c2 all_nil)))

theorem stable65 (l : VL) (h : sortPre l = true) : ∃ m, p65 m l = some (.tup [], [.arr (.pair (.sl (.pair .str .str)) (.int .i64)) (sortG l) true]) := by
  obtain ⟨h1, h2⟩ := of_decide_eq_true h
  refine ⟨0, ?_⟩
  unfold p65
  have e1 : decide ((20 : Int) ≤ ((List.length l : Nat) : Int)) = false := decide_eq_false (by omega)
  have e2 : decide ((20 : Int) < ((List.length l : Nat) : Int)) = false := decide_eq_false (by omega)
  rw [e1, e2, h]
  simp
def s65 : List AV → Boxes → M (AV × Boxes) := fun xs B => match xs, B with
  | [.sr 0 0 n 2 none, .d (.int .i64 b), .fn 45 []], [.arr (.pair (.sl (.pair .str .str)) (.int .i64)) l true] => .chk (decide (n = List.length l) && decide (b = ((List.length l : Nat) : Int)) && sortPre l) (.ret (.tup [], [.arr (.pair (.sl (.pair .str .str)) (.int .i64)) (sortG l) true]))
  | _, _ => .fail
theorem s65_at : CallAt Tryd.prog 65 s65 := by
  intro xs B r' B' hr
  unfold s65 at hr
  split at hr
  · rename_i n b l
    obtain ⟨hp, hr⟩ := (M.run_chk _ _ _).1 hr
    simp only [M.run, Option.some.injEq, Prod.mk.injEq] at hr
    obtain ⟨rfl, rfl⟩ := hr
    simp only [Bool.and_eq_true, decide_eq_true_eq] at hp
    obtain ⟨⟨rfl, rfl⟩, hp⟩ := hp
    obtain ⟨m, hm⟩ := stable65 l hp
    exact evCall_atH mixed kinds hds S16 S16_ok (m + 25) 65 _ _ _ _ (p65_ok m l _ hm)
  · simp [M.run] at hr

noncomputable def S17 : FuncId → Option (List AV → Boxes → M (AV × Boxes)) := fun f => if f = 65 then some s65 else S16 f
theorem S17_ok : ∀ f s, S17 f = some s → CallAt Tryd.prog f s := by
  intro f s h
  unfold S17 at h
  split at h
  · rename_i e; subst e; cases h; exact s65_at
  · exact S16_ok f s h

noncomputable def S18 : FuncId → Option (List AV → Boxes → M (AV × Boxes)) := fun f => if f = 43 then some (cloneR (.pair (.sl (.pair .str .str)) (.int .i64)) 32) else S17 f
theorem S18_ok : ∀ f s, S18 f = some s → CallAt Tryd.prog f s := by
  intro f s h
  unfold S18 at h
  split at h
  · rename_i e; subst e; cases h; exact (cloneR_at mixed 48 48 54 (.pair (.sl (.pair .str .str)) (.int .i64)) 32 Tryd.func43 (by kernel_rfl) (by kernel_rfl) (by kernel_rfl) (by kernel_rfl) (by kernel_rfl) (by kernel_rfl) (by kernel_rfl) (by kernel_rfl) (by kernel_rfl) (by kernel_rfl) (by kernel_rfl) (by kernel_rfl) (by kernel_rfl) (by kernel_rfl) (by kernel_rfl) (by kernel_rfl) (by kernel_rfl) (by kernel_rfl) (by kernel_rfl) )
  · exact S17_ok f s h

end Go.Proofs.YtahdcmicifokgaaDoor.Dec
namespace Go.Proofs.YtahdcmicifokgaaDoor.Dec
open Go.Ev
set_option linter.unusedVariables false
set_option linter.unusedSimpArgs false
set_option maxRecDepth 100000
set_option maxHeartbeats 20000000
noncomputable def fn19 : AFn := (F 19).getD ⟨0, [], .bad, false, false, noHd⟩
noncomputable def body19 : AC := fn19.body
def p19 (m : Nat) (x0 : Q0) : Option ((Q0)) :=
  if decide (((List.length x0) * 32) ≤ 70368744177664) = true then
  if ((decide ((List.length x0) = (List.length x0)) && decide ((((List.length x0) : Nat) : Int) = (((List.length x0) : Nat) : Int))) && sortPre x0) = true then
  if decide ((0 + (List.length x0)) ≤ (List.length (sortG x0))) = true then
  some ((List.take (List.length x0) (List.drop 0 (sortG x0))))
  else none
  else none
  else none
theorem p19_ok (m : Nat) (x0 : Q0) (q : (Q0)) (h : p19 m x0 = some q) : ∃ r B1, (evCall F S18 (m + 25) 19 [(.d (.sl (.pair (.sl (.pair .str .str)) (.int .i64)) x0))] []).run = some (r, B1) ∧ 0 ≤ B1.length ∧ wkR B1 [] r (.d (.sl (.pair (.sl (.pair .str .str)) (.int .i64)) q)) ∧ wkBs B1 [] 0 [] := by
  unfold p19 at h
  obtain ⟨c0, h⟩ := iY h
  obtain ⟨c1, h⟩ := iY h
  obtain ⟨c2, h⟩ := iY h
  cases h
  refine ⟨(.d (.sl (.pair (.sl (.pair .str .str)) (.int .i64)) (List.take (List.length x0) (List.drop 0 (sortG x0))))), [], runT_ok (LS := (fun k => none)) (fn := fn19) (vis := []) (by kernel_rfl) rfl (by kernel_rfl) (M.run_of_path _ [tT, tT, tT] _ _ (by kernel_rfl) (all_t c0 (all_t c1 (all_t c2 all_nil)))) ?_, by simp, (wkR.one (wkV.one (wk1.eq rfl))), trivial⟩
  intro p hp; cases hp

theorem len_foldR : ∀ (l acc : VL), (foldR acc l).length = acc.length + l.length
  | [], acc => rfl
  | x :: l, acc => by
    show (foldR (insR x acc) l).length = _
    rw [len_foldR l, len_insR, List.length_cons]
    omega
theorem len_sortG (l : VL) : (sortG l).length = l.length := by
  unfold sortG
  rw [List.length_reverse, len_foldR]
  simp
theorem sort19 (l : VL) (h : sortPre l = true) : ∃ m, p19 m l = some (sortG l) := by
  have ⟨h1, h2⟩ := of_decide_eq_true h
  refine ⟨0, ?_⟩
  unfold p19
  have e1 : decide (((List.length l) * 32) ≤ 70368744177664) = true := decide_eq_true (by omega)
  have e2 : decide ((0 + (List.length l)) ≤ (List.length (sortG l))) = true := decide_eq_true (by rw [len_sortG]; omega)
  rw [if_pos e1, h, if_pos (by simp), if_pos e2, List.drop_zero, ← len_sortG l, List.take_length]
def s19 : List AV → Boxes → M (AV × Boxes) := normS [.val (.sl (.pair (.sl (.pair .str .str)) (.int .i64)))] [] fun xs B => match xs, B with
  | [(.d (.sl (.pair (.sl (.pair .str .str)) (.int .i64)) c1))], [] => .chk (sortPre c1) (.ret ((.d (.sl (.pair (.sl (.pair .str .str)) (.int .i64)) (sortG c1))), []))
  | _, _ => .fail
theorem s19_at : CallAt Tryd.prog 19 s19 := by
  refine CallAt.norm (CallAt.weakE (g := fun n => evCall F S18 n 19) (fun n => evCall_atH mixed kinds hds S18 S18_ok n 19) fun xs B r' B' hr => ?_) _ _
  split at hr
  · rename_i c1
    obtain ⟨hp, hr⟩ := (M.run_chk _ _ _).1 hr
    simp only [M.run, Option.some.injEq, Prod.mk.injEq] at hr
    obtain ⟨rfl, rfl⟩ := hr
    obtain ⟨m, hm⟩ := sort19 c1 hp
    obtain ⟨r, B1, h1, h2, h3, h4⟩ := p19_ok m c1 _ hm
    exact ⟨m + 25, r, B1, h1, by simp, h2, h3, h4⟩
  · simp [M.run] at hr
noncomputable def S19 : FuncId → Option (List AV → Boxes → M (AV × Boxes)) := fun f => if f = 19 then some s19 else S18 f
theorem S19_ok : ∀ f s, S19 f = some s → CallAt Tryd.prog f s := by
  intro f s h
  unfold S19 at h
  split at h
  · rename_i e; subst e; cases h; exact s19_at
  · exact S18_ok f s h

noncomputable def fn82 : AFn := (F 82).getD ⟨0, [], .bad, false, false, noHd⟩
noncomputable def body82 : AC := fn82.body
def l82_0 (m : Nat) : Nat → Q3 → Q4 → Int → Int → Option (Nat × Int)
  | 0, _, _, _, _ => none
  | n + 1, x0, x1, s7, s8 => if decide (s8 < s7) = true then
      if decide (0 ≤ s8) = true then
      if decide (s8 < (((List.length x0) : Nat) : Int)) = true then
      if (x1 == (List.getD x0 (Int.toNat s8) ([] : Q4))) = true then
        some (0, s8)
      else
        l82_0 m n x0 x1 s7 ((IntKind.wrap .i64 (s8 + (1))))
      else none
      else none
    else
      some (1, s8)
def l82_0D : Nat × Int := (0, 0)
@[reducible] def l82_0R (m n : Nat) (x0 : Q3) (x1 : Q4) (s7 : Int) (s8 : Int) : Nat × Int := Option.getD (l82_0 m n x0 x1 s7 s8) l82_0D
def l82_0H (x0 : Q3) (x1 : Q4) (s7 : Int) (s8 : Int) : Env := ((.d (.sl .str x0)) :: (.d (.str x1)) :: .top :: .top :: .top :: .top :: .top :: (.d (.int .i64 s7)) :: (.d (.int .i64 s8)) :: tp10 [])
def l82_0B (x0 : Q3) (x1 : Q4) (s7 : Int) (s8 : Int) : Boxes := []
def l82_0E (x0 : Q3) (x1 : Q4) (s7 : Int) (s8 : Int) : Nat → AEx × Env × Boxes
  | 0 => (.ret, [(.d (.sl .str x0)), (.d (.str x1)), .top, .top, (.d (.int .i64 s8)), (.d (.int .i64 s8)), .top, (.d (.int .i64 s7)), (.d (.int .i64 s8)), (.d (.bool (decide (s8 < s7)))), (.d (.int .i64 s8)), (.d (.str x1)), (.d (.sl .str x0)), (.d (.int .i64 s8)), (.cptr [(.str (List.getD x0 (Int.toNat s8) ([] : Q4)))] 0), (.d (.str (List.getD x0 (Int.toNat s8) ([] : Q4)))), (.d (.bool (x1 == (List.getD x0 (Int.toNat s8) ([] : Q4))))), (.d (.int .i64 s8)), .top], [])
  | _ => (.exit 0, ((.d (.sl .str x0)) :: (.d (.str x1)) :: .top :: .top :: .top :: .top :: .top :: (.d (.int .i64 s7)) :: (.d (.int .i64 s8)) :: (.d (.bool (decide (s8 < s7)))) :: tp9 []), [])
noncomputable def lbl82_0 : AC := loopBody 387 body82
@[reducible] noncomputable def cb10 (m : Nat) := (evC byref (evCall F S19 (m + 24)) (m + 24) 0 (hds 82) lbl82_0)


theorem l82_0_step (m n : Nat) (ih : ∀ (x0 : Q3) (x1 : Q4) (s7 : Int) (s8 : Int) (q : Nat × Int), l82_0 m n x0 x1 s7 s8 = some q → (turns (hds 82 387) 0 387 (cb10 m) n (l82_0H x0 x1 s7 s8) (l82_0B x0 x1 s7 s8)).run = some (l82_0E (x0) (x1) (s7) (q.2) q.1)) (x0 : Q3) (x1 : Q4) (s7 : Int) (s8 : Int) (q : Nat × Int) (h : l82_0 m (n + 1) x0 x1 s7 s8 = some q) : (turns (hds 82 387) 0 387 (cb10 m) (n + 1) (l82_0H x0 x1 s7 s8) (l82_0B x0 x1 s7 s8)).run = some (l82_0E (x0) (x1) (s7) (q.2) q.1) := by
  rw [l82_0] at h
  refine ite_cases h (fun c0 h => ?_) (fun c0 h => ?_)
  · skip
    obtain ⟨c1, h⟩ := iY h
    obtain ⟨c2, h⟩ := iY h
    refine ite_cases h (fun c3 h => ?_) (fun c3 h => ?_)
    · skip
      cases h
      refine turns_last (by simp) ?_
      exact M.run_of_path _ [tT, tT, tT, tT] _ _ (by kernel_rfl) (all_t c0 (all_t c1 (all_t c2 (all_t c3 all_nil))))
    · skip
      have ih := ih _ _ _ _ q h
      refine turns_step ?_ ih
      exact M.run_of_path _ [tT, tT, tT, fF] _ _ (by kernel_rfl) (all_t c0 (all_t c1 (all_t c2 (all_f c3 all_nil))))
  · skip
    cases h
    refine turns_last (by simp) ?_
    exact M.run_of_path _ [fF] _ _ (by kernel_rfl) (all_f c0 all_nil)
theorem l82_0_ok (m : Nat) : ∀ (n : Nat) (x0 : Q3) (x1 : Q4) (s7 : Int) (s8 : Int) (q : Nat × Int), l82_0 m n x0 x1 s7 s8 = some q → (turns (hds 82 387) 0 387 (cb10 m) n (l82_0H x0 x1 s7 s8) (l82_0B x0 x1 s7 s8)).run = some (l82_0E (x0) (x1) (s7) (q.2) q.1)
  | 0, x0, x1, s7, s8, q, h => by cases h
  | n + 1, x0, x1, s7, s8, q, h => l82_0_step m n (l82_0_ok m n) x0 x1 s7 s8 q h

def p82 (m : Nat) (x0 : Q3) (x1 : Q4) : Option (Int) :=
  if (Option.isSome (l82_0 m (m + 24) x0 x1 ((((List.length x0) : Nat) : Int)) 0)) = true then
  if ((l82_0R m (m + 24) x0 x1 ((((List.length x0) : Nat) : Int)) 0).1 == 0) = true then
    some ((l82_0R m (m + 24) x0 x1 ((((List.length x0) : Nat) : Int)) 0).2)
  else
    if ((l82_0R m (m + 24) x0 x1 ((((List.length x0) : Nat) : Int)) 0).1 == 1) = true then
    some ((-1))
    else none
  else none
theorem p82_ok (m : Nat) (x0 : Q3) (x1 : Q4) (q : Int) (h : p82 m x0 x1 = some q) : ∃ r B1, (evCall F S19 (m + 25) 82 [(.d (.sl .str x0)), (.d (.str x1))] []).run = some (r, B1) ∧ 0 ≤ B1.length ∧ wkR B1 [] r (.d (.int .i64 q)) ∧ wkBs B1 [] 0 [] := by
  unfold p82 at h
  obtain ⟨c0, h⟩ := iY h
  refine ite_cases h (fun c1 h => ?_) (fun c1 h => ?_)
  · skip
    cases h
    refine ⟨(.d (.int .i64 (l82_0R m (m + 24) x0 x1 ((((List.length x0) : Nat) : Int)) 0).2)), [], runT_ok (LS := (fun k => if k = 387 then some (l82_0E x0 x1 (((((List.length x0) : Nat) : Int))) ((l82_0R m (m + 24) x0 x1 ((((List.length x0) : Nat) : Int)) 0).2) 0) else none)) (fn := fn82) (vis := [(387, l82_0H x0 x1 ((((List.length x0) : Nat) : Int)) 0, l82_0B x0 x1 ((((List.length x0) : Nat) : Int)) 0)]) (by kernel_rfl) rfl (by kernel_rfl) (M.run_of_path _ [] _ _ (by kernel_rfl) all_nil) ?_, by simp, (wkR.one (wkV.one (wk1.eq rfl))), trivial⟩
    intro p hp p2 hq
    rcases List.mem_cons.1 hp with rfl | hp
    · skip
      have h3 := l82_0_ok m (m + 24) x0 x1 ((((List.length x0) : Nat) : Int)) 0 _ (some_getD (d := l82_0D) c0)
      rw [eq_of_beq c1] at h3
      exact Eq.trans (Eq.mp (by kernel_rfl) h3) hq
    cases hp
  · skip
    obtain ⟨c2, h⟩ := iY h
    cases h
    refine ⟨(.d (.int .i64 (-1))), [], runT_ok (LS := (fun k => if k = 387 then some (l82_0E x0 x1 (((((List.length x0) : Nat) : Int))) ((l82_0R m (m + 24) x0 x1 ((((List.length x0) : Nat) : Int)) 0).2) 1) else none)) (fn := fn82) (vis := [(387, l82_0H x0 x1 ((((List.length x0) : Nat) : Int)) 0, l82_0B x0 x1 ((((List.length x0) : Nat) : Int)) 0)]) (by kernel_rfl) rfl (by kernel_rfl) (M.run_of_path _ [] _ _ (by kernel_rfl) all_nil) ?_, by simp, (wkR.one (wkV.one (wk1.eq rfl))), trivial⟩
    intro p hp p2 hq
    rcases List.mem_cons.1 hp with rfl | hp
    · skip
      have h3 := l82_0_ok m (m + 24) x0 x1 ((((List.length x0) : Nat) : Int)) 0 _ (some_getD (d := l82_0D) c0)
      rw [eq_of_beq c2] at h3
      exact Eq.trans (Eq.mp (by kernel_rfl) h3) hq
    cases hp

def idxFrom : Q3 → Q4 → Nat → Int
  | [], _, _ => -1
  | x :: l, v, k => if (x == v) = true then ((k : Nat) : Int) else idxFrom l v (k + 1)
def idxG (l : Q3) (v : Q4) : Int := idxFrom l v 0
theorem idx_pos : ∀ (l : Q3) (v : Q4) (k : Nat), decide (idxFrom l v k ≥ 0) = l.contains v
  | [], v, k => rfl
  | x :: l, v, k => by
    rw [idxFrom, List.contains_cons]
    by_cases h : (x == v) = true
    · rw [if_pos h]
      have : (v == x) = true := by rw [beq_iff_eq] at h ⊢; exact h.symm
      rw [this, Bool.true_or]
      exact decide_eq_true (by omega)
    · rw [if_neg h, idx_pos l v (k + 1)]
      have : (v == x) = false := by
        rw [beq_eq_false_iff_ne]
        intro e; exact h (by rw [beq_iff_eq]; exact e.symm)
      rw [this, Bool.false_or]
theorem idx_loop (m : Nat) (l : Q3) (v : Q4) (hb : l.length ≤ 9223372036854775807) : ∀ (n k : Nat), k ≤ l.length → l.length - k < n → (∃ j : Nat, l82_0 m n l v (l.length : Nat) (k : Nat) = some (0, ((j : Nat) : Int)) ∧ idxFrom (l.drop k) v k = ((j : Nat) : Int)) ∨ (∃ j, l82_0 m n l v (l.length : Nat) (k : Nat) = some (1, j) ∧ idxFrom (l.drop k) v k = -1)
  | 0, k, _, h => by omega
  | n + 1, k, h1, h2 => by
    rw [l82_0]
    by_cases hk : k < l.length
    · have e1 : decide (((k : Nat) : Int) < (((List.length l) : Nat) : Int)) = true := decide_eq_true (by omega)
      have e2 : decide ((0 : Int) ≤ ((k : Nat) : Int)) = true := decide_eq_true (by omega)
      have e7 : IntKind.wrap .i64 (((k : Nat) : Int) + (1)) = ((k + 1 : Nat) : Int) := by rw [wrap_id (by omega) (by omega)]; rfl
      rw [drop_getD l k ([] : Q4) hk, show Int.toNat ((k : Nat) : Int) = k from rfl, e7, if_pos e1, if_pos e2, if_pos e1, idxFrom]
      by_cases hc : (v == l.getD k ([] : Q4)) = true
      · have hc' : (l.getD k ([] : Q4) == v) = true := by rw [beq_iff_eq] at hc ⊢; exact hc.symm
        rw [if_pos hc, if_pos hc']
        exact .inl ⟨k, rfl, rfl⟩
      · have hc' : ¬ (l.getD k ([] : Q4) == v) = true := by rw [beq_iff_eq] at hc ⊢; exact fun h => hc h.symm
        rw [if_neg hc, if_neg hc']
        exact idx_loop m l v hb n (k + 1) (by omega) (by omega)
    · have e1 : decide (((k : Nat) : Int) < (((List.length l) : Nat) : Int)) = false := decide_eq_false (by omega)
      rw [e1, if_neg (by simp), List.drop_eq_nil_of_le (by omega)]
      exact .inr ⟨_, rfl, rfl⟩
theorem idxS (l : Q3) (v : Q4) (h : decide (List.length l ≤ 9223372036854775807) = true) : ∃ m, p82 m l v = some (idxG l v) := by
  have h := of_decide_eq_true h
  refine ⟨l.length, ?_⟩
  unfold p82 l82_0R idxG
  rcases idx_loop l.length l v h (l.length + 24) 0 (by omega) (by omega) with ⟨j, h1, h2⟩ | ⟨j, h1, h2⟩
  · simp only [Int.natCast_zero, List.drop_zero] at h1 h2
    rw [h1, h2]
    simp
  · simp only [Int.natCast_zero, List.drop_zero] at h1 h2
    rw [h1, h2]
    simp
def s82 : List AV → Boxes → M (AV × Boxes) := normS [.val (.sl .str), .val .str] [] fun xs B => match xs, B with
  | [(.d (.sl .str c1)), (.d (.str c2))], [] => .chk (decide (List.length c1 ≤ 9223372036854775807)) (.ret ((.d (.int .i64 (idxG c1 c2))), []))
  | _, _ => .fail
theorem s82_at : CallAt Tryd.prog 82 s82 := by
  refine CallAt.norm (CallAt.weakE (g := fun n => evCall F S19 n 82) (fun n => evCall_atH mixed kinds hds S19 S19_ok n 82) fun xs B r' B' hr => ?_) _ _
  split at hr
  · rename_i c1 c2
    obtain ⟨hp, hr⟩ := (M.run_chk _ _ _).1 hr
    simp only [M.run, Option.some.injEq, Prod.mk.injEq] at hr
    obtain ⟨rfl, rfl⟩ := hr
    obtain ⟨m, hm⟩ := idxS c1 c2 hp
    obtain ⟨r, B1, h1, h2, h3, h4⟩ := p82_ok m c1 c2 _ hm
    exact ⟨m + 25, r, B1, h1, by simp, h2, h3, h4⟩
  · simp [M.run] at hr
noncomputable def S20 : FuncId → Option (List AV → Boxes → M (AV × Boxes)) := fun f => if f = 82 then some s82 else S19 f
theorem S20_ok : ∀ f s, S20 f = some s → CallAt Tryd.prog f s := by
  intro f s h
  unfold S20 at h
  split at h
  · rename_i e; subst e; cases h; exact s82_at
  · exact S19_ok f s h

noncomputable def fn69 : AFn := (F 69).getD ⟨0, [], .bad, false, false, noHd⟩
noncomputable def body69 : AC := fn69.body
def l69_0 (m : Nat) : Nat → Q2 → Q3 → Int → Int → Q2 → Option (Nat × Int × (Q2))
  | 0, _, _, _, _, _ => none
  | n + 1, x0, x1, s9, s10, b0 => if decide (s10 < s9) = true then
      if decide (0 ≤ s10) = true then
      if decide (s10 < (((List.length x0) : Nat) : Int)) = true then
      if decide (List.length x1 ≤ 9223372036854775807) = true then
      if decide ((idxG x1 (List.getD x0 (Int.toNat s10) (([] : Q4), ([] : Q4))).1) ≥ 0) = true then
        l69_0 m n x0 x1 s9 ((IntKind.wrap .i64 (s10 + (1)))) b0
      else
        if decide ((((List.length b0) + 1) * 32) ≤ 70368744177664) = true then
        l69_0 m n x0 x1 s9 ((IntKind.wrap .i64 (s10 + (1)))) ((b0 ++ [(List.getD x0 (Int.toNat s10) (([] : Q4), ([] : Q4)))]))
        else none
      else none
      else none
      else none
    else
      some (0, s10, b0)
def l69_0D : Nat × Int × (Q2) := (0, 0, [])
@[reducible] def l69_0R (m n : Nat) (x0 : Q2) (x1 : Q3) (s9 : Int) (s10 : Int) (b0 : Q2) : Nat × Int × (Q2) := Option.getD (l69_0 m n x0 x1 s9 s10 b0) l69_0D
def l69_0H (x0 : Q2) (x1 : Q3) (s9 : Int) (s10 : Int) (b0 : Q2) : Env := (.top :: (.d (.sl .str x1)) :: .top :: .top :: .top :: (.sr 0 0 (List.length b0) 2 none) :: .top :: .top :: (.d (.sl (.pair .str .str) x0)) :: (.d (.int .i64 s9)) :: (.d (.int .i64 s10)) :: tp14 [])
def l69_0B (x0 : Q2) (x1 : Q3) (s9 : Int) (s10 : Int) (b0 : Q2) : Boxes := [(.arr (.pair .str .str) b0 true)]
def l69_0E (x0 : Q2) (x1 : Q3) (s9 : Int) (s10 : Int) (b0 : Q2) : Nat → AEx × Env × Boxes
  | _ => (.exit 0, (.top :: (.d (.sl .str x1)) :: .top :: .top :: .top :: (.sr 0 0 (List.length b0) 2 none) :: .top :: .top :: (.d (.sl (.pair .str .str) x0)) :: (.d (.int .i64 s9)) :: (.d (.int .i64 s10)) :: (.d (.bool (decide (s10 < s9)))) :: tp13 []), [(.arr (.pair .str .str) b0 true)])
noncomputable def lbl69_0 : AC := loopBody 1826 body69
@[reducible] noncomputable def cb11 (m : Nat) := (evC byref (evCall F S20 (m + 24)) (m + 24) 0 (hds 69) lbl69_0)


theorem l69_0_step (m n : Nat) (ih : ∀ (x0 : Q2) (x1 : Q3) (s9 : Int) (s10 : Int) (b0 : Q2) (q : Nat × Int × (Q2)), l69_0 m n x0 x1 s9 s10 b0 = some q → (turns (hds 69 1826) 0 1826 (cb11 m) n (l69_0H x0 x1 s9 s10 b0) (l69_0B x0 x1 s9 s10 b0)).run = some (l69_0E (x0) (x1) (s9) (q.2.1) (q.2.2) q.1)) (x0 : Q2) (x1 : Q3) (s9 : Int) (s10 : Int) (b0 : Q2) (q : Nat × Int × (Q2)) (h : l69_0 m (n + 1) x0 x1 s9 s10 b0 = some q) : (turns (hds 69 1826) 0 1826 (cb11 m) (n + 1) (l69_0H x0 x1 s9 s10 b0) (l69_0B x0 x1 s9 s10 b0)).run = some (l69_0E (x0) (x1) (s9) (q.2.1) (q.2.2) q.1) := by
  rw [l69_0] at h
  refine ite_cases h (fun c0 h => ?_) (fun c0 h => ?_)
  · skip
    obtain ⟨c1, h⟩ := iY h
    obtain ⟨c2, h⟩ := iY h
    obtain ⟨c3, h⟩ := iY h
    refine ite_cases h (fun c4 h => ?_) (fun c4 h => ?_)
    · skip
      have ih := ih _ _ _ _ _ q h
      refine turns_step ?_ ih
      exact M.run_of_path _ [tT, tT, tT, tT, fF] _ _ (by kernel_rfl) (all_t c0 (all_t c1 (all_t c2 (all_t c3 (all_nt c4 all_nil)))))
    · skip
      obtain ⟨c6, h⟩ := iY h
      have ih := ih _ _ _ _ _ q h
      have ht : (turn (hds 69 1826) 0 1826 (cb11 m) (l69_0H x0 x1 s9 s10 b0) (l69_0B x0 x1 s9 s10 b0)).run = some (.normal, (.top :: (.d (.sl .str x1)) :: .top :: .top :: .top :: (.sr 0 0 ((List.length b0) + 1) 2 none) :: .top :: .top :: (.d (.sl (.pair .str .str) x0)) :: (.d (.int .i64 s9)) :: (.d (.int .i64 (IntKind.wrap .i64 (s10 + (1))))) :: tp14 []), [(.arr (.pair .str .str) (b0 ++ [(List.getD x0 (Int.toNat s10) (([] : Q4), ([] : Q4)))]) true)]) := M.run_of_path _ [tT, tT, tT, tT, tT, tT, tT, tT] _ _ (by kernel_rfl) (all_t c0 (all_t c1 (all_t c2 (all_t c3 (all_nf c4 (all_t rfl (all_t c6 (all_t (show decide ((List.length b0) = (List.length b0)) = true from decide_eq_true rfl) all_nil))))))))
      refine turns_step ht (turns_eq ?_ ?_ ih)
      · unfold l69_0H
        first | (simp; done) | (simp [Nat.add_assoc]; done) | (simp; omega)
      · unfold l69_0B
        simp
  · skip
    cases h
    refine turns_last (by simp) ?_
    exact M.run_of_path _ [fF] _ _ (by kernel_rfl) (all_f c0 all_nil)
theorem l69_0_ok (m : Nat) : ∀ (n : Nat) (x0 : Q2) (x1 : Q3) (s9 : Int) (s10 : Int) (b0 : Q2) (q : Nat × Int × (Q2)), l69_0 m n x0 x1 s9 s10 b0 = some q → (turns (hds 69 1826) 0 1826 (cb11 m) n (l69_0H x0 x1 s9 s10 b0) (l69_0B x0 x1 s9 s10 b0)).run = some (l69_0E (x0) (x1) (s9) (q.2.1) (q.2.2) q.1)
  | 0, x0, x1, s9, s10, b0, q, h => by cases h
  | n + 1, x0, x1, s9, s10, b0, q, h => l69_0_step m n (l69_0_ok m n) x0 x1 s9 s10 b0 q h

def p69 (m : Nat) (x0 : Q2) (x1 : Q3) : Option ((Q2)) :=
  if (Option.isSome (l69_0 m (m + 24) x0 x1 ((((List.length x0) : Nat) : Int)) 0 (([] : Q2)))) = true then
  some ((List.take (List.length (l69_0R m (m + 24) x0 x1 ((((List.length x0) : Nat) : Int)) 0 (([] : Q2))).2.2) (List.drop 0 (l69_0R m (m + 24) x0 x1 ((((List.length x0) : Nat) : Int)) 0 (([] : Q2))).2.2)))
  else none
theorem p69_ok (m : Nat) (x0 : Q2) (x1 : Q3) (q : (Q2)) (h : p69 m x0 x1 = some q) : ∃ r B1, (evCall F S20 (m + 25) 69 [(.d (.sl (.pair .str .str) x0)), (.d (.sl .str x1))] []).run = some (r, B1) ∧ 0 ≤ B1.length ∧ wkR B1 [] r (.d (.sl (.pair .str .str) q)) ∧ wkBs B1 [] 0 [] := by
  unfold p69 at h
  obtain ⟨c0, h⟩ := iY h
  cases h
  refine ⟨(.d (.sl (.pair .str .str) (List.take (List.length (l69_0R m (m + 24) x0 x1 ((((List.length x0) : Nat) : Int)) 0 (([] : Q2))).2.2) (List.drop 0 (l69_0R m (m + 24) x0 x1 ((((List.length x0) : Nat) : Int)) 0 (([] : Q2))).2.2)))), [], runT_ok (LS := (fun k => if k = 1826 then some (l69_0E x0 x1 (((((List.length x0) : Nat) : Int))) ((l69_0R m (m + 24) x0 x1 ((((List.length x0) : Nat) : Int)) 0 (([] : Q2))).2.1) ((l69_0R m (m + 24) x0 x1 ((((List.length x0) : Nat) : Int)) 0 (([] : Q2))).2.2) 0) else none)) (fn := fn69) (vis := [(1826, l69_0H x0 x1 ((((List.length x0) : Nat) : Int)) 0 (([] : Q2)), l69_0B x0 x1 ((((List.length x0) : Nat) : Int)) 0 (([] : Q2)))]) (by kernel_rfl) rfl (by kernel_rfl) (M.run_of_path _ [tT] _ _ (by kernel_rfl) (all_t (show decide ((0 + (List.length (l69_0R m (m + 24) x0 x1 ((((List.length x0) : Nat) : Int)) 0 (([] : Q2))).2.2)) ≤ (List.length (l69_0R m (m + 24) x0 x1 ((((List.length x0) : Nat) : Int)) 0 (([] : Q2))).2.2)) = true from decide_eq_true (Nat.le_of_eq (Nat.zero_add _))) all_nil)) ?_, by simp, (wkR.one (wkV.one (wk1.eq rfl))), trivial⟩
  intro p hp p2 hq
  rcases List.mem_cons.1 hp with rfl | hp
  · skip
    have h3 := l69_0_ok m (m + 24) x0 x1 ((((List.length x0) : Nat) : Int)) 0 (([] : Q2)) _ (some_getD (d := l69_0D) c0)
    exact Eq.trans (Eq.mp (by kernel_rfl) h3) hq
  cases hp

def keepPre (l : LB) (ns : Q3) : Bool := decide (l.length ≤ 1000000 ∧ ns.length ≤ 9223372036854775807)
def dropG (l : LB) (ns : Q3) : LB := l.filter fun x => !ns.contains x.1
theorem drop_loop (m : Nat) (l : LB) (ns : Q3) (h1 : l.length ≤ 1000000) (hn : ns.length ≤ 9223372036854775807) : ∀ (n k : Nat) (b : LB), k ≤ l.length → l.length - k < n → b.length ≤ k → l69_0 m n l ns (l.length : Nat) (k : Nat) b = some (0, ((l.length : Nat) : Int), b ++ dropG (l.drop k) ns)
  | 0, k, _, _, h, _ => by omega
  | n + 1, k, b, g1, g2, g3 => by
    rw [l69_0]
    by_cases hk : k < l.length
    · have e1 : decide (((k : Nat) : Int) < (((List.length l) : Nat) : Int)) = true := decide_eq_true (by omega)
      have e2 : decide ((0 : Int) ≤ ((k : Nat) : Int)) = true := decide_eq_true (by omega)
      have e3 : decide (List.length ns ≤ 9223372036854775807) = true := decide_eq_true hn
      have e7 : IntKind.wrap .i64 (((k : Nat) : Int) + (1)) = ((k + 1 : Nat) : Int) := by rw [wrap_id (by omega) (by omega)]; rfl
      have go := fun b h => drop_loop m l ns h1 hn n (k + 1) b (by omega) (by omega) h
      rw [drop_getD l k (([] : Q4), ([] : Q4)) hk]
      simp only [show Int.toNat ((k : Nat) : Int) = k from rfl, e1, e2, e3, e7, ↓reduceIte]
      generalize l.getD k (([] : Q4), ([] : Q4)) = q at *
      have b1 : decide (((List.length b) + 1) * 32 ≤ 70368744177664) = true := decide_eq_true (by omega)
      have hp : decide (idxG ns q.1 ≥ 0) = ns.contains q.1 := idx_pos ns q.1 0
      have hc : dropG (q :: l.drop (k + 1)) ns = if (!ns.contains q.1) = true then q :: dropG (l.drop (k + 1)) ns else dropG (l.drop (k + 1)) ns := by
        unfold dropG; rw [List.filter_cons]
      rw [hc, hp]
      cases hq : ns.contains q.1 with
      | false =>
        simp only [b1, ↓reduceIte, Bool.not_false, Bool.false_eq_true]
        rw [go _ (by simp; omega)]
        simp
      | true =>
        simp only [↓reduceIte, Bool.not_true, Bool.false_eq_true]
        exact go b (by omega)
    · have e1 : decide (((k : Nat) : Int) < (((List.length l) : Nat) : Int)) = false := decide_eq_false (by omega)
      have e0 : k = l.length := by omega
      subst e0
      rw [e1, if_neg (by simp), List.drop_length]
      simp [dropG]
theorem drop20 (l : LB) (ns : Q3) (h : keepPre l ns = true) : ∃ m, p69 m l ns = some (dropG l ns) := by
  have ⟨h1, h2⟩ := of_decide_eq_true h
  refine ⟨l.length, ?_⟩
  have hl := drop_loop l.length l ns h1 h2 (l.length + 24) 0 [] (by omega) (by omega) (by simp)
  simp only [Int.natCast_zero, List.drop_zero, List.nil_append] at hl
  unfold p69
  simp only [l69_0R, hl, Option.isSome_some, Option.getD_some, ↓reduceIte]
  rw [List.drop_zero, List.take_length]
def s69 : List AV → Boxes → M (AV × Boxes) := normS [.val (.sl (.pair .str .str)), .val (.sl .str)] [] fun xs B => match xs, B with
  | [(.d (.sl (.pair .str .str) c1)), (.d (.sl .str c2))], [] => .chk (keepPre c1 c2) (.ret ((.d (.sl (.pair .str .str) (dropG c1 c2))), []))
  | _, _ => .fail
theorem s69_at : CallAt Tryd.prog 69 s69 := by
  refine CallAt.norm (CallAt.weakE (g := fun n => evCall F S20 n 69) (fun n => evCall_atH mixed kinds hds S20 S20_ok n 69) fun xs B r' B' hr => ?_) _ _
  split at hr
  · rename_i c1 c2
    obtain ⟨hp, hr⟩ := (M.run_chk _ _ _).1 hr
    simp only [M.run, Option.some.injEq, Prod.mk.injEq] at hr
    obtain ⟨rfl, rfl⟩ := hr
    obtain ⟨m, hm⟩ := drop20 c1 c2 hp
    obtain ⟨r, B1, h1, h2, h3, h4⟩ := p69_ok m c1 c2 _ hm
    exact ⟨m + 25, r, B1, h1, by simp, h2, h3, h4⟩
  · simp [M.run] at hr
noncomputable def S21 : FuncId → Option (List AV → Boxes → M (AV × Boxes)) := fun f => if f = 69 then some s69 else S20 f
theorem S21_ok : ∀ f s, S21 f = some s → CallAt Tryd.prog f s := by
  intro f s h
  unfold S21 at h
  split at h
  · rename_i e; subst e; cases h; exact s69_at
  · exact S20_ok f s h

noncomputable def fn38 : AFn := (F 38).getD ⟨0, [], .bad, false, false, noHd⟩
noncomputable def body38 : AC := fn38.body
def l38_0 (m : Nat) : Nat → Q2 → Q3 → Int → Int → Q2 → Option (Nat × Int × (Q2))
  | 0, _, _, _, _, _ => none
  | n + 1, x0, x1, s9, s10, b0 => if decide (s10 < s9) = true then
      if decide (0 ≤ s10) = true then
      if decide (s10 < (((List.length x0) : Nat) : Int)) = true then
      if decide (List.length x1 ≤ 9223372036854775807) = true then
      if decide ((idxG x1 (List.getD x0 (Int.toNat s10) (([] : Q4), ([] : Q4))).1) ≥ 0) = true then
        if decide ((((List.length b0) + 1) * 32) ≤ 70368744177664) = true then
        l38_0 m n x0 x1 s9 ((IntKind.wrap .i64 (s10 + (1)))) ((b0 ++ [(List.getD x0 (Int.toNat s10) (([] : Q4), ([] : Q4)))]))
        else none
      else
        l38_0 m n x0 x1 s9 ((IntKind.wrap .i64 (s10 + (1)))) b0
      else none
      else none
      else none
    else
      some (0, s10, b0)
def l38_0D : Nat × Int × (Q2) := (0, 0, [])
@[reducible] def l38_0R (m n : Nat) (x0 : Q2) (x1 : Q3) (s9 : Int) (s10 : Int) (b0 : Q2) : Nat × Int × (Q2) := Option.getD (l38_0 m n x0 x1 s9 s10 b0) l38_0D
def l38_0H (x0 : Q2) (x1 : Q3) (s9 : Int) (s10 : Int) (b0 : Q2) : Env := (.top :: (.d (.sl .str x1)) :: .top :: .top :: .top :: (.sr 0 0 (List.length b0) 2 none) :: .top :: .top :: (.d (.sl (.pair .str .str) x0)) :: (.d (.int .i64 s9)) :: (.d (.int .i64 s10)) :: tp13 [])
def l38_0B (x0 : Q2) (x1 : Q3) (s9 : Int) (s10 : Int) (b0 : Q2) : Boxes := [(.arr (.pair .str .str) b0 true)]
def l38_0E (x0 : Q2) (x1 : Q3) (s9 : Int) (s10 : Int) (b0 : Q2) : Nat → AEx × Env × Boxes
  | _ => (.exit 0, (.top :: (.d (.sl .str x1)) :: .top :: .top :: .top :: (.sr 0 0 (List.length b0) 2 none) :: .top :: .top :: (.d (.sl (.pair .str .str) x0)) :: (.d (.int .i64 s9)) :: (.d (.int .i64 s10)) :: (.d (.bool (decide (s10 < s9)))) :: tp12 []), [(.arr (.pair .str .str) b0 true)])
noncomputable def lbl38_0 : AC := loopBody 1826 body38
@[reducible] noncomputable def cb12 (m : Nat) := (evC byref (evCall F S21 (m + 24)) (m + 24) 0 (hds 38) lbl38_0)


theorem l38_0_step (m n : Nat) (ih : ∀ (x0 : Q2) (x1 : Q3) (s9 : Int) (s10 : Int) (b0 : Q2) (q : Nat × Int × (Q2)), l38_0 m n x0 x1 s9 s10 b0 = some q → (turns (hds 38 1826) 0 1826 (cb12 m) n (l38_0H x0 x1 s9 s10 b0) (l38_0B x0 x1 s9 s10 b0)).run = some (l38_0E (x0) (x1) (s9) (q.2.1) (q.2.2) q.1)) (x0 : Q2) (x1 : Q3) (s9 : Int) (s10 : Int) (b0 : Q2) (q : Nat × Int × (Q2)) (h : l38_0 m (n + 1) x0 x1 s9 s10 b0 = some q) : (turns (hds 38 1826) 0 1826 (cb12 m) (n + 1) (l38_0H x0 x1 s9 s10 b0) (l38_0B x0 x1 s9 s10 b0)).run = some (l38_0E (x0) (x1) (s9) (q.2.1) (q.2.2) q.1) := by
  rw [l38_0] at h
  refine ite_cases h (fun c0 h => ?_) (fun c0 h => ?_)
  · skip
    obtain ⟨c1, h⟩ := iY h
    obtain ⟨c2, h⟩ := iY h
    obtain ⟨c3, h⟩ := iY h
    refine ite_cases h (fun c4 h => ?_) (fun c4 h => ?_)
    · skip
      obtain ⟨c6, h⟩ := iY h
      have ih := ih _ _ _ _ _ q h
      have ht : (turn (hds 38 1826) 0 1826 (cb12 m) (l38_0H x0 x1 s9 s10 b0) (l38_0B x0 x1 s9 s10 b0)).run = some (.normal, (.top :: (.d (.sl .str x1)) :: .top :: .top :: .top :: (.sr 0 0 ((List.length b0) + 1) 2 none) :: .top :: .top :: (.d (.sl (.pair .str .str) x0)) :: (.d (.int .i64 s9)) :: (.d (.int .i64 (IntKind.wrap .i64 (s10 + (1))))) :: tp13 []), [(.arr (.pair .str .str) (b0 ++ [(List.getD x0 (Int.toNat s10) (([] : Q4), ([] : Q4)))]) true)]) := M.run_of_path _ [tT, tT, tT, tT, tT, tT, tT, tT] _ _ (by kernel_rfl) (all_t c0 (all_t c1 (all_t c2 (all_t c3 (all_t c4 (all_t rfl (all_t c6 (all_t (show decide ((List.length b0) = (List.length b0)) = true from decide_eq_true rfl) all_nil))))))))
      refine turns_step ht (turns_eq ?_ ?_ ih)
      · unfold l38_0H
        first | (simp; done) | (simp [Nat.add_assoc]; done) | (simp; omega)
      · unfold l38_0B
        simp
    · skip
      have ih := ih _ _ _ _ _ q h
      refine turns_step ?_ ih
      exact M.run_of_path _ [tT, tT, tT, tT, fF] _ _ (by kernel_rfl) (all_t c0 (all_t c1 (all_t c2 (all_t c3 (all_f c4 all_nil)))))
  · skip
    cases h
    refine turns_last (by simp) ?_
    exact M.run_of_path _ [fF] _ _ (by kernel_rfl) (all_f c0 all_nil)
theorem l38_0_ok (m : Nat) : ∀ (n : Nat) (x0 : Q2) (x1 : Q3) (s9 : Int) (s10 : Int) (b0 : Q2) (q : Nat × Int × (Q2)), l38_0 m n x0 x1 s9 s10 b0 = some q → (turns (hds 38 1826) 0 1826 (cb12 m) n (l38_0H x0 x1 s9 s10 b0) (l38_0B x0 x1 s9 s10 b0)).run = some (l38_0E (x0) (x1) (s9) (q.2.1) (q.2.2) q.1)
  | 0, x0, x1, s9, s10, b0, q, h => by cases h
  | n + 1, x0, x1, s9, s10, b0, q, h => l38_0_step m n (l38_0_ok m n) x0 x1 s9 s10 b0 q h

def p38 (m : Nat) (x0 : Q2) (x1 : Q3) : Option ((Q2)) :=
  if (Option.isSome (l38_0 m (m + 24) x0 x1 ((((List.length x0) : Nat) : Int)) 0 (([] : Q2)))) = true then
  some ((List.take (List.length (l38_0R m (m + 24) x0 x1 ((((List.length x0) : Nat) : Int)) 0 (([] : Q2))).2.2) (List.drop 0 (l38_0R m (m + 24) x0 x1 ((((List.length x0) : Nat) : Int)) 0 (([] : Q2))).2.2)))
  else none
theorem p38_ok (m : Nat) (x0 : Q2) (x1 : Q3) (q : (Q2)) (h : p38 m x0 x1 = some q) : ∃ r B1, (evCall F S21 (m + 25) 38 [(.d (.sl (.pair .str .str) x0)), (.d (.sl .str x1))] []).run = some (r, B1) ∧ 0 ≤ B1.length ∧ wkR B1 [] r (.d (.sl (.pair .str .str) q)) ∧ wkBs B1 [] 0 [] := by
  unfold p38 at h
  obtain ⟨c0, h⟩ := iY h
  cases h
  refine ⟨(.d (.sl (.pair .str .str) (List.take (List.length (l38_0R m (m + 24) x0 x1 ((((List.length x0) : Nat) : Int)) 0 (([] : Q2))).2.2) (List.drop 0 (l38_0R m (m + 24) x0 x1 ((((List.length x0) : Nat) : Int)) 0 (([] : Q2))).2.2)))), [], runT_ok (LS := (fun k => if k = 1826 then some (l38_0E x0 x1 (((((List.length x0) : Nat) : Int))) ((l38_0R m (m + 24) x0 x1 ((((List.length x0) : Nat) : Int)) 0 (([] : Q2))).2.1) ((l38_0R m (m + 24) x0 x1 ((((List.length x0) : Nat) : Int)) 0 (([] : Q2))).2.2) 0) else none)) (fn := fn38) (vis := [(1826, l38_0H x0 x1 ((((List.length x0) : Nat) : Int)) 0 (([] : Q2)), l38_0B x0 x1 ((((List.length x0) : Nat) : Int)) 0 (([] : Q2)))]) (by kernel_rfl) rfl (by kernel_rfl) (M.run_of_path _ [tT] _ _ (by kernel_rfl) (all_t (show decide ((0 + (List.length (l38_0R m (m + 24) x0 x1 ((((List.length x0) : Nat) : Int)) 0 (([] : Q2))).2.2)) ≤ (List.length (l38_0R m (m + 24) x0 x1 ((((List.length x0) : Nat) : Int)) 0 (([] : Q2))).2.2)) = true from decide_eq_true (Nat.le_of_eq (Nat.zero_add _))) all_nil)) ?_, by simp, (wkR.one (wkV.one (wk1.eq rfl))), trivial⟩
  intro p hp p2 hq
  rcases List.mem_cons.1 hp with rfl | hp
  · skip
    have h3 := l38_0_ok m (m + 24) x0 x1 ((((List.length x0) : Nat) : Int)) 0 (([] : Q2)) _ (some_getD (d := l38_0D) c0)
    exact Eq.trans (Eq.mp (by kernel_rfl) h3) hq
  cases hp

def keepG (l : LB) (ns : Q3) : LB := l.filter fun x => ns.contains x.1
theorem keep_loop (m : Nat) (l : LB) (ns : Q3) (h1 : l.length ≤ 1000000) (hn : ns.length ≤ 9223372036854775807) : ∀ (n k : Nat) (b : LB), k ≤ l.length → l.length - k < n → b.length ≤ k → l38_0 m n l ns (l.length : Nat) (k : Nat) b = some (0, ((l.length : Nat) : Int), b ++ keepG (l.drop k) ns)
  | 0, k, _, _, h, _ => by omega
  | n + 1, k, b, g1, g2, g3 => by
    rw [l38_0]
    by_cases hk : k < l.length
    · have e1 : decide (((k : Nat) : Int) < (((List.length l) : Nat) : Int)) = true := decide_eq_true (by omega)
      have e2 : decide ((0 : Int) ≤ ((k : Nat) : Int)) = true := decide_eq_true (by omega)
      have e3 : decide (List.length ns ≤ 9223372036854775807) = true := decide_eq_true hn
      have e7 : IntKind.wrap .i64 (((k : Nat) : Int) + (1)) = ((k + 1 : Nat) : Int) := by rw [wrap_id (by omega) (by omega)]; rfl
      have go := fun b h => keep_loop m l ns h1 hn n (k + 1) b (by omega) (by omega) h
      rw [drop_getD l k (([] : Q4), ([] : Q4)) hk]
      simp only [show Int.toNat ((k : Nat) : Int) = k from rfl, e1, e2, e3, e7, ↓reduceIte]
      generalize l.getD k (([] : Q4), ([] : Q4)) = q at *
      have b1 : decide (((List.length b) + 1) * 32 ≤ 70368744177664) = true := decide_eq_true (by omega)
      have hp : decide (idxG ns q.1 ≥ 0) = ns.contains q.1 := idx_pos ns q.1 0
      have hc : keepG (q :: l.drop (k + 1)) ns = if ns.contains q.1 = true then q :: keepG (l.drop (k + 1)) ns else keepG (l.drop (k + 1)) ns := by
        unfold keepG; rw [List.filter_cons]
      rw [hc, hp]
      cases hq : ns.contains q.1 with
      | true =>
        simp only [b1, ↓reduceIte]
        rw [go _ (by simp; omega)]
        simp
      | false =>
        simp only [↓reduceIte, Bool.false_eq_true]
        exact go b (by omega)
    · have e1 : decide (((k : Nat) : Int) < (((List.length l) : Nat) : Int)) = false := decide_eq_false (by omega)
      have e0 : k = l.length := by omega
      subst e0
      rw [e1, if_neg (by simp), List.drop_length]
      simp [keepG]
theorem keep21 (l : LB) (ns : Q3) (h : keepPre l ns = true) : ∃ m, p38 m l ns = some (keepG l ns) := by
  have ⟨h1, h2⟩ := of_decide_eq_true h
  refine ⟨l.length, ?_⟩
  have hl := keep_loop l.length l ns h1 h2 (l.length + 24) 0 [] (by omega) (by omega) (by simp)
  simp only [Int.natCast_zero, List.drop_zero, List.nil_append] at hl
  unfold p38
  simp only [l38_0R, hl, Option.isSome_some, Option.getD_some, ↓reduceIte, List.drop_zero, List.take_length]
def s38 : List AV → Boxes → M (AV × Boxes) := normS [.val (.sl (.pair .str .str)), .val (.sl .str)] [] fun xs B => match xs, B with
  | [(.d (.sl (.pair .str .str) c1)), (.d (.sl .str c2))], [] => .chk (keepPre c1 c2) (.ret ((.d (.sl (.pair .str .str) (keepG c1 c2))), []))
  | _, _ => .fail
theorem s38_at : CallAt Tryd.prog 38 s38 := by
  refine CallAt.norm (CallAt.weakE (g := fun n => evCall F S21 n 38) (fun n => evCall_atH mixed kinds hds S21 S21_ok n 38) fun xs B r' B' hr => ?_) _ _
  split at hr
  · rename_i c1 c2
    obtain ⟨hp, hr⟩ := (M.run_chk _ _ _).1 hr
    simp only [M.run, Option.some.injEq, Prod.mk.injEq] at hr
    obtain ⟨rfl, rfl⟩ := hr
    obtain ⟨m, hm⟩ := keep21 c1 c2 hp
    obtain ⟨r, B1, h1, h2, h3, h4⟩ := p38_ok m c1 c2 _ hm
    exact ⟨m + 25, r, B1, h1, by simp, h2, h3, h4⟩
  · simp [M.run] at hr
noncomputable def S22 : FuncId → Option (List AV → Boxes → M (AV × Boxes)) := fun f => if f = 38 then some s38 else S21 f
theorem S22_ok : ∀ f s, S22 f = some s → CallAt Tryd.prog f s := by
  intro f s h
  unfold S22 at h
  split at h
  · rename_i e; subst e; cases h; exact s38_at
  · exact S21_ok f s h

end Go.Proofs.YtahdcmicifokgaaDoor.Dec
namespace Go.Proofs.YtahdcmicifokgaaDoor.Dec
open Go.Ev
set_option linter.unusedVariables false
set_option linter.unusedSimpArgs false
set_option maxRecDepth 100000
set_option maxHeartbeats 20000000
noncomputable def fn39 : AFn := (F 39).getD ⟨0, [], .bad, false, false, noHd⟩
noncomputable def body39 : AC := fn39.body
def l39_0 (m : Nat) : Nat → Q0 → Q2 → Int → Int → Option (Nat × Int)
  | 0, _, _, _, _ => none
  | n + 1, x0, x1c0, s7, s8 => if decide (s8 < s7) = true then
      if decide (0 ≤ s8) = true then
      if decide (s8 < (((List.length x0) : Nat) : Int)) = true then
      if keepPre (List.getD x0 (Int.toNat s8) (([] : Q2), 0)).1 [([110, 97, 109, 101] : Q4)] = true then
      if decide (List.length (dropG (List.getD x0 (Int.toNat s8) (([] : Q2), 0)).1 [([110, 97, 109, 101] : Q4)]) < 4611686018427387904) = true then
      if ((show Q2 from (dropG (List.getD x0 (Int.toNat s8) (([] : Q2), 0)).1 [([110, 97, 109, 101] : Q4)])) == x1c0) = true then
        some (0, s8)
      else
        l39_0 m n x0 x1c0 s7 ((IntKind.wrap .i64 (s8 + (1))))
      else none
      else none
      else none
      else none
    else
      some (1, s8)
def l39_0D : Nat × Int := (0, 0)
@[reducible] def l39_0R (m n : Nat) (x0 : Q0) (x1c0 : Q2) (s7 : Int) (s8 : Int) : Nat × Int := Option.getD (l39_0 m n x0 x1c0 s7 s8) l39_0D
def l39_0H (x0 : Q0) (x1c0 : Q2) (s7 : Int) (s8 : Int) : Env := ((.d (.sl (.pair (.sl (.pair .str .str)) (.int .i64)) x0)) :: (.fn 68 [(.ptr 0 0)]) :: .top :: .top :: .top :: .top :: .top :: (.d (.int .i64 s7)) :: (.d (.int .i64 s8)) :: tp10 [])
def l39_0B (x0 : Q0) (x1c0 : Q2) (s7 : Int) (s8 : Int) : Boxes := [(.cells [(.d (.sl (.pair .str .str) x1c0))])]
def l39_0E (x0 : Q0) (x1c0 : Q2) (s7 : Int) (s8 : Int) : Nat → AEx × Env × Boxes
  | 0 => (.ret, [(.d (.sl (.pair (.sl (.pair .str .str)) (.int .i64)) x0)), (.fn 68 [(.ptr 0 0)]), .top, .top, (.d (.int .i64 s8)), (.d (.int .i64 s8)), .top, (.d (.int .i64 s7)), (.d (.int .i64 s8)), (.d (.bool (decide (s8 < s7)))), (.d (.int .i64 s8)), (.fn 68 [(.ptr 0 0)]), (.d (.sl (.pair (.sl (.pair .str .str)) (.int .i64)) x0)), (.d (.int .i64 s8)), (.cptr [(.sl (.pair .str .str) (List.getD x0 (Int.toNat s8) (([] : Q2), 0)).1), (.int .i64 (List.getD x0 (Int.toNat s8) (([] : Q2), 0)).2)] 0), (.agg [(.d (.sl (.pair .str .str) (List.getD x0 (Int.toNat s8) (([] : Q2), 0)).1)), (.d (.int .i64 (List.getD x0 (Int.toNat s8) (([] : Q2), 0)).2))]), (.d (.bool ((show Q2 from (dropG (List.getD x0 (Int.toNat s8) (([] : Q2), 0)).1 [([110, 97, 109, 101] : Q4)])) == x1c0))), (.d (.int .i64 s8)), .top], [(.cells [(.d (.sl (.pair .str .str) x1c0))])])
  | _ => (.exit 0, ((.d (.sl (.pair (.sl (.pair .str .str)) (.int .i64)) x0)) :: (.fn 68 [(.ptr 0 0)]) :: .top :: .top :: .top :: .top :: .top :: (.d (.int .i64 s7)) :: (.d (.int .i64 s8)) :: (.d (.bool (decide (s8 < s7)))) :: tp9 []), [(.cells [(.d (.sl (.pair .str .str) x1c0))])])
noncomputable def lbl39_0 : AC := loopBody 387 body39
@[reducible] noncomputable def cb13 (m : Nat) := (evC byref (evCall F S22 (m + 24)) (m + 24) 1 (hds 39) lbl39_0)


theorem l39_0_step (m n : Nat) (ih : ∀ (x0 : Q0) (x1c0 : Q2) (s7 : Int) (s8 : Int) (q : Nat × Int), l39_0 m n x0 x1c0 s7 s8 = some q → (turns (hds 39 387) 1 387 (cb13 m) n (l39_0H x0 x1c0 s7 s8) (l39_0B x0 x1c0 s7 s8)).run = some (l39_0E (x0) (x1c0) (s7) (q.2) q.1)) (x0 : Q0) (x1c0 : Q2) (s7 : Int) (s8 : Int) (q : Nat × Int) (h : l39_0 m (n + 1) x0 x1c0 s7 s8 = some q) : (turns (hds 39 387) 1 387 (cb13 m) (n + 1) (l39_0H x0 x1c0 s7 s8) (l39_0B x0 x1c0 s7 s8)).run = some (l39_0E (x0) (x1c0) (s7) (q.2) q.1) := by
  rw [l39_0] at h
  refine ite_cases h (fun c0 h => ?_) (fun c0 h => ?_)
  · skip
    obtain ⟨c1, h⟩ := iY h
    obtain ⟨c2, h⟩ := iY h
    obtain ⟨c4, h⟩ := iY h
    obtain ⟨c5, h⟩ := iY h
    refine ite_cases h (fun c6 h => ?_) (fun c6 h => ?_)
    · skip
      cases h
      refine turns_last (by simp) ?_
      exact M.run_of_path _ [tT, tT, tT, tT, tT, tT, tT] _ _ (by kernel_rfl) (all_t c0 (all_t c1 (all_t c2 (all_t rfl (all_t c4 (all_t c5 (all_t c6 all_nil)))))))
    · skip
      have ih := ih _ _ _ _ q h
      refine turns_step ?_ ih
      exact M.run_of_path _ [tT, tT, tT, tT, tT, tT, fF] _ _ (by kernel_rfl) (all_t c0 (all_t c1 (all_t c2 (all_t rfl (all_t c4 (all_t c5 (all_f c6 all_nil)))))))
  · skip
    cases h
    refine turns_last (by simp) ?_
    exact M.run_of_path _ [fF] _ _ (by kernel_rfl) (all_f c0 all_nil)
theorem l39_0_ok (m : Nat) : ∀ (n : Nat) (x0 : Q0) (x1c0 : Q2) (s7 : Int) (s8 : Int) (q : Nat × Int), l39_0 m n x0 x1c0 s7 s8 = some q → (turns (hds 39 387) 1 387 (cb13 m) n (l39_0H x0 x1c0 s7 s8) (l39_0B x0 x1c0 s7 s8)).run = some (l39_0E (x0) (x1c0) (s7) (q.2) q.1)
  | 0, x0, x1c0, s7, s8, q, h => by cases h
  | n + 1, x0, x1c0, s7, s8, q, h => l39_0_step m n (l39_0_ok m n) x0 x1c0 s7 s8 q h

def p39 (m : Nat) (x0 : Q0) (x1c0 : Q2) : Option (Int × (Q2)) :=
  if (Option.isSome (l39_0 m (m + 24) x0 x1c0 ((((List.length x0) : Nat) : Int)) 0)) = true then
  if ((l39_0R m (m + 24) x0 x1c0 ((((List.length x0) : Nat) : Int)) 0).1 == 0) = true then
    some ((l39_0R m (m + 24) x0 x1c0 ((((List.length x0) : Nat) : Int)) 0).2, x1c0)
  else
    if ((l39_0R m (m + 24) x0 x1c0 ((((List.length x0) : Nat) : Int)) 0).1 == 1) = true then
    some ((-1), x1c0)
    else none
  else none
theorem p39_ok (m : Nat) (x0 : Q0) (x1c0 : Q2) (q : Int × (Q2)) (h : p39 m x0 x1c0 = some q) : ∃ r B1, (evCall F S22 (m + 25) 39 [(.d (.sl (.pair (.sl (.pair .str .str)) (.int .i64)) x0)), (.fn 68 [(.ptr 0 0)])] [(.cells [(.d (.sl (.pair .str .str) x1c0))])]).run = some (r, B1) ∧ 1 ≤ B1.length ∧ wkR B1 [(.cells [(.d (.sl (.pair .str .str) q.2))])] r (.d (.int .i64 q.1)) ∧ wkBs B1 [(.cells [(.d (.sl (.pair .str .str) q.2))])] 0 [(.cells [(.d (.sl (.pair .str .str) q.2))])] := by
  unfold p39 at h
  obtain ⟨c0, h⟩ := iY h
  refine ite_cases h (fun c1 h => ?_) (fun c1 h => ?_)
  · skip
    cases h
    refine ⟨(.d (.int .i64 (l39_0R m (m + 24) x0 x1c0 ((((List.length x0) : Nat) : Int)) 0).2)), [(.cells [(.d (.sl (.pair .str .str) x1c0))])], runT_ok (LS := (fun k => if k = 387 then some (l39_0E x0 x1c0 (((((List.length x0) : Nat) : Int))) ((l39_0R m (m + 24) x0 x1c0 ((((List.length x0) : Nat) : Int)) 0).2) 0) else none)) (fn := fn39) (vis := [(387, l39_0H x0 x1c0 ((((List.length x0) : Nat) : Int)) 0, l39_0B x0 x1c0 ((((List.length x0) : Nat) : Int)) 0)]) (by kernel_rfl) rfl (by kernel_rfl) (M.run_of_path _ [] _ _ (by kernel_rfl) all_nil) ?_, by simp, (wkR.one (wkV.one (wk1.eq rfl))), ⟨wkBox.cells (wkL.cons (wk1.eq rfl) wkL.nil), trivial⟩⟩
    intro p hp p2 hq
    rcases List.mem_cons.1 hp with rfl | hp
    · skip
      have h3 := l39_0_ok m (m + 24) x0 x1c0 ((((List.length x0) : Nat) : Int)) 0 _ (some_getD (d := l39_0D) c0)
      rw [eq_of_beq c1] at h3
      exact Eq.trans (Eq.mp (by kernel_rfl) h3) hq
    cases hp
  · skip
    obtain ⟨c2, h⟩ := iY h
    cases h
    refine ⟨(.d (.int .i64 (-1))), [(.cells [(.d (.sl (.pair .str .str) x1c0))])], runT_ok (LS := (fun k => if k = 387 then some (l39_0E x0 x1c0 (((((List.length x0) : Nat) : Int))) ((l39_0R m (m + 24) x0 x1c0 ((((List.length x0) : Nat) : Int)) 0).2) 1) else none)) (fn := fn39) (vis := [(387, l39_0H x0 x1c0 ((((List.length x0) : Nat) : Int)) 0, l39_0B x0 x1c0 ((((List.length x0) : Nat) : Int)) 0)]) (by kernel_rfl) rfl (by kernel_rfl) (M.run_of_path _ [] _ _ (by kernel_rfl) all_nil) ?_, by simp, (wkR.one (wkV.one (wk1.eq rfl))), ⟨wkBox.cells (wkL.cons (wk1.eq rfl) wkL.nil), trivial⟩⟩
    intro p hp p2 hq
    rcases List.mem_cons.1 hp with rfl | hp
    · skip
      have h3 := l39_0_ok m (m + 24) x0 x1c0 ((((List.length x0) : Nat) : Int)) 0 _ (some_getD (d := l39_0D) c0)
      rw [eq_of_beq c2] at h3
      exact Eq.trans (Eq.mp (by kernel_rfl) h3) hq
    cases hp

def nmK : Q3 := [([110, 97, 109, 101] : Q4)]
def pkeyG (p : PT1) : LB := dropG p.1 [([110, 97, 109, 101] : Q4)]
def fIdx (c : PT1 → Bool) : VL → Nat → Int
  | [], _ => -1
  | x :: l, k => if c x = true then ((k : Nat) : Int) else fIdx c l (k + 1)
def findG (l : VL) (k : LB) : Int := fIdx (fun p => pkeyG p == k) l 0
def vPre (l : VL) : Bool := decide (l.length ≤ 1000000 ∧ ∀ p ∈ l, p.1.length ≤ 1000000)
def findPre (l : VL) (k : LB) : Bool := vPre l
theorem drop_le (l : LB) (ns : Q3) : (dropG l ns).length ≤ l.length := List.length_filter_le _ _
theorem find_loop (m : Nat) (l : VL) (v : LB) (hb : l.length ≤ 1000000) (hx : ∀ p ∈ l, p.1.length ≤ 1000000) : ∀ (n k : Nat), k ≤ l.length → l.length - k < n →
    (∃ j : Nat, l39_0 m n l v (l.length : Nat) (k : Nat) = some (0, ((j : Nat) : Int)) ∧ fIdx (fun p => pkeyG p == v) (l.drop k) k = ((j : Nat) : Int)) ∨ (∃ j, l39_0 m n l v (l.length : Nat) (k : Nat) = some (1, j) ∧ fIdx (fun p => pkeyG p == v) (l.drop k) k = -1)
  | 0, k, _, h => by omega
  | n + 1, k, h1, h2 => by
    rw [l39_0]
    by_cases hk : k < l.length
    · have e1 : decide (((k : Nat) : Int) < (((List.length l) : Nat) : Int)) = true := decide_eq_true (by omega)
      have e2 : decide ((0 : Int) ≤ ((k : Nat) : Int)) = true := decide_eq_true (by omega)
      have e7 : IntKind.wrap .i64 (((k : Nat) : Int) + (1)) = ((k + 1 : Nat) : Int) := by rw [wrap_id (by omega) (by omega)]; rfl
      have hq := hx _ (getD_mem l k (([] : LB), 0) hk)
      rw [drop_getD l k (([] : LB), 0) hk, show Int.toNat ((k : Nat) : Int) = k from rfl, e7, if_pos e1, if_pos e2, if_pos e1, fIdx]
      generalize l.getD k (([] : LB), 0) = q at *
      have hd := drop_le q.1 [([110, 97, 109, 101] : Q4)]
      have hk1 : keepPre q.1 [([110, 97, 109, 101] : Q4)] = true := decide_eq_true ⟨hq, by simp⟩
      rw [if_pos hk1, if_pos (decide_eq_true (by omega))]
      by_cases hc : (pkeyG q == v) = true
      · have hc' : ((show Q2 from (dropG q.1 [([110, 97, 109, 101] : Q4)])) == v) = true := hc
        rw [if_pos hc', if_pos hc]
        exact .inl ⟨k, rfl, rfl⟩
      · have hc' : ¬ ((show Q2 from (dropG q.1 [([110, 97, 109, 101] : Q4)])) == v) = true := hc
        rw [if_neg hc', if_neg hc]
        exact find_loop m l v hb hx n (k + 1) (by omega) (by omega)
    · have e1 : decide (((k : Nat) : Int) < (((List.length l) : Nat) : Int)) = false := decide_eq_false (by omega)
      rw [e1, if_neg (by simp), List.drop_eq_nil_of_le (by omega)]
      exact .inr ⟨_, rfl, rfl⟩
theorem find39 (l : VL) (v : LB) (h : findPre l v = true) : ∃ m, p39 m l v = some (findG l v, v) := by
  have ⟨h1, h2⟩ := of_decide_eq_true h
  refine ⟨l.length, ?_⟩
  unfold p39 l39_0R findG
  have := find_loop l.length l v h1 h2 (l.length + 24) 0 (by omega) (by omega)
  simp only [Int.natCast_zero, List.drop_zero] at this
  rcases this with ⟨j, hr, hc⟩ | ⟨j, hr, hc⟩ <;> rw [hr, hc] <;> simp
def s39 : List AV → Boxes → M (AV × Boxes) := normS [.val (.sl (.pair (.sl (.pair .str .str)) (.int .i64))), .ptr] [(.sl (.pair .str .str))] fun xs B => match xs, B with
  | [(.d (.sl (.pair (.sl (.pair .str .str)) (.int .i64)) c1)), (.fn 68 [(.ptr 0 0)])], [(.cells [(.d (.sl (.pair .str .str) c2))])] => .chk (findPre c1 c2) (.ret ((.d (.int .i64 (findG c1 c2))), [(.cells [(.d (.sl (.pair .str .str) c2))])]))
  | _, _ => .fail
theorem s39_at : CallAt Tryd.prog 39 s39 := by
  refine CallAt.norm (CallAt.weakE (g := fun n => evCall F S22 n 39) (fun n => evCall_atH mixed kinds hds S22 S22_ok n 39) fun xs B r' B' hr => ?_) _ _
  split at hr
  · rename_i c1 c2
    obtain ⟨hp, hr⟩ := (M.run_chk _ _ _).1 hr
    simp only [M.run, Option.some.injEq, Prod.mk.injEq] at hr
    obtain ⟨rfl, rfl⟩ := hr
    obtain ⟨m, hm⟩ := find39 c1 c2 hp
    obtain ⟨r, B1, h1, h2, h3, h4⟩ := p39_ok m c1 c2 _ hm
    exact ⟨m + 25, r, B1, h1, by simp, h2, h3, h4⟩
  · simp [M.run] at hr
noncomputable def S23 : FuncId → Option (List AV → Boxes → M (AV × Boxes)) := fun f => if f = 39 then some s39 else S22 f
theorem S23_ok : ∀ f s, S23 f = some s → CallAt Tryd.prog f s := by
  intro f s h
  unfold S23 at h
  split at h
  · rename_i e; subst e; cases h; exact s39_at
  · exact S22_ok f s h

noncomputable def fn48 : AFn := (F 48).getD ⟨0, [], .bad, false, false, noHd⟩
noncomputable def body48 : AC := fn48.body
def p48 (m : Nat) (x0 : Q0) (x1 : Q2) : Option (Int) :=
  if findPre x0 x1 = true then
  some ((findG x0 x1))
  else none
theorem p48_ok (m : Nat) (x0 : Q0) (x1 : Q2) (q : Int) (h : p48 m x0 x1 = some q) : ∃ r B1, (evCall F S23 (m + 25) 48 [(.d (.sl (.pair (.sl (.pair .str .str)) (.int .i64)) x0)), (.d (.sl (.pair .str .str) x1))] []).run = some (r, B1) ∧ 0 ≤ B1.length ∧ wkR B1 [] r (.d (.int .i64 q)) ∧ wkBs B1 [] 0 [] := by
  unfold p48 at h
  obtain ⟨c0, h⟩ := iY h
  cases h
  refine ⟨(.d (.int .i64 (findG x0 x1))), [], runT_ok (LS := (fun k => none)) (fn := fn48) (vis := []) (by kernel_rfl) rfl (by kernel_rfl) (M.run_of_path _ [tT] _ _ (by kernel_rfl) (all_t c0 all_nil)) ?_, by simp, (wkR.one (wkV.one (wk1.eq rfl))), trivial⟩
  intro p hp; cases hp

theorem find48 (l : VL) (v : LB) (h : findPre l v = true) : ∃ m, p48 m l v = some (findG l v) := ⟨0, by unfold p48; rw [if_pos h]⟩
def s48 : List AV → Boxes → M (AV × Boxes) := normS [.val (.sl (.pair (.sl (.pair .str .str)) (.int .i64))), .val (.sl (.pair .str .str))] [] fun xs B => match xs, B with
  | [(.d (.sl (.pair (.sl (.pair .str .str)) (.int .i64)) c1)), (.d (.sl (.pair .str .str) c2))], [] => .chk (findPre c1 c2) (.ret ((.d (.int .i64 (findG c1 c2))), []))
  | _, _ => .fail
theorem s48_at : CallAt Tryd.prog 48 s48 := by
  refine CallAt.norm (CallAt.weakE (g := fun n => evCall F S23 n 48) (fun n => evCall_atH mixed kinds hds S23 S23_ok n 48) fun xs B r' B' hr => ?_) _ _
  split at hr
  · rename_i c1 c2
    obtain ⟨hp, hr⟩ := (M.run_chk _ _ _).1 hr
    simp only [M.run, Option.some.injEq, Prod.mk.injEq] at hr
    obtain ⟨rfl, rfl⟩ := hr
    obtain ⟨m, hm⟩ := find48 c1 c2 hp
    obtain ⟨r, B1, h1, h2, h3, h4⟩ := p48_ok m c1 c2 _ hm
    exact ⟨m + 25, r, B1, h1, by simp, h2, h3, h4⟩
  · simp [M.run] at hr
noncomputable def S24 : FuncId → Option (List AV → Boxes → M (AV × Boxes)) := fun f => if f = 48 then some s48 else S23 f
theorem S24_ok : ∀ f s, S24 f = some s → CallAt Tryd.prog f s := by
  intro f s h
  unfold S24 at h
  split at h
  · rename_i e; subst e; cases h; exact s48_at
  · exact S23_ok f s h

noncomputable def fn49 : AFn := (F 49).getD ⟨0, [], .bad, false, false, noHd⟩
noncomputable def body49 : AC := fn49.body
def p49 (m : Nat) (x0 : (Q2) × Int) : Option ((Q2)) :=
  if keepPre x0.1 [([110, 97, 109, 101] : Q4)] = true then
  some ((dropG x0.1 [([110, 97, 109, 101] : Q4)]))
  else none
theorem p49_ok (m : Nat) (x0 : (Q2) × Int) (q : (Q2)) (h : p49 m x0 = some q) : ∃ r B1, (evCall F S24 (m + 25) 49 [(.agg [(.d (.sl (.pair .str .str) x0.1)), (.d (.int .i64 x0.2))])] []).run = some (r, B1) ∧ 0 ≤ B1.length ∧ wkR B1 [] r (.d (.sl (.pair .str .str) q)) ∧ wkBs B1 [] 0 [] := by
  unfold p49 at h
  obtain ⟨c1, h⟩ := iY h
  cases h
  refine ⟨(.d (.sl (.pair .str .str) (dropG x0.1 [([110, 97, 109, 101] : Q4)]))), [], runT_ok (LS := (fun k => none)) (fn := fn49) (vis := []) (by kernel_rfl) rfl (by kernel_rfl) (M.run_of_path _ [tT, tT] _ _ (by kernel_rfl) (all_t rfl (all_t c1 all_nil))) ?_, by simp, (wkR.one (wkV.one (wk1.eq rfl))), trivial⟩
  intro p hp; cases hp

theorem key49 (p : PT1) (h : decide (List.length p.1 ≤ 1000000) = true) : ∃ m, p49 m p = some (pkeyG p) := by
  refine ⟨0, ?_⟩
  have hk : keepPre p.1 [([110, 97, 109, 101] : Q4)] = true := decide_eq_true ⟨of_decide_eq_true h, by simp⟩
  unfold p49
  rw [if_pos hk]
  rfl
def s49 : List AV → Boxes → M (AV × Boxes) := normS [.val (.pair (.sl (.pair .str .str)) (.int .i64))] [] fun xs B => match xs, B with
  | [(.agg [(.d (.sl (.pair .str .str) c1)), (.d (.int .i64 c2))])], [] => .chk (decide (List.length ((c1, c2)).1 ≤ 1000000)) (.ret ((.d (.sl (.pair .str .str) (pkeyG ((c1, c2))))), []))
  | _, _ => .fail
theorem s49_at : CallAt Tryd.prog 49 s49 := by
  refine CallAt.norm (CallAt.weakE (g := fun n => evCall F S24 n 49) (fun n => evCall_atH mixed kinds hds S24 S24_ok n 49) fun xs B r' B' hr => ?_) _ _
  split at hr
  · rename_i c1 c2
    obtain ⟨hp, hr⟩ := (M.run_chk _ _ _).1 hr
    simp only [M.run, Option.some.injEq, Prod.mk.injEq] at hr
    obtain ⟨rfl, rfl⟩ := hr
    obtain ⟨m, hm⟩ := key49 ((c1, c2)) hp
    obtain ⟨r, B1, h1, h2, h3, h4⟩ := p49_ok m ((c1, c2)) _ hm
    exact ⟨m + 25, r, B1, h1, by simp, h2, h3, h4⟩
  · simp [M.run] at hr
noncomputable def S25 : FuncId → Option (List AV → Boxes → M (AV × Boxes)) := fun f => if f = 49 then some s49 else S24 f
theorem S25_ok : ∀ f s, S25 f = some s → CallAt Tryd.prog f s := by
  intro f s h
  unfold S25 at h
  split at h
  · rename_i e; subst e; cases h; exact s49_at
  · exact S24_ok f s h

noncomputable def fn21 : AFn := (F 21).getD ⟨0, [], .bad, false, false, noHd⟩
noncomputable def body21 : AC := fn21.body
def l21_0 (m : Nat) : Nat → Q0 → Int → Int → Option (Nat × Int)
  | 0, _, _, _ => none
  | n + 1, x0, s6, s7 => if decide (s7 < s6) = true then
      if decide (0 ≤ s7) = true then
      if decide (s7 < (((List.length x0) : Nat) : Int)) = true then
      if (decide (0 ≤ s7) && decide (s7 ≤ (((List.length x0) : Nat) : Int))) = true then
      if decide (List.length (List.getD x0 (Int.toNat s7) (([] : Q2), 0)).1 ≤ 1000000) = true then
      if findPre (List.drop 0 (List.take (Int.toNat s7) x0)) (pkeyG (List.getD x0 (Int.toNat s7) (([] : Q2), 0))) = true then
      if decide ((findG (List.drop 0 (List.take (Int.toNat s7) x0)) (pkeyG (List.getD x0 (Int.toNat s7) (([] : Q2), 0)))) ≥ 0) = true then
        some (0, s7)
      else
        l21_0 m n x0 s6 ((IntKind.wrap .i64 (s7 + (1))))
      else none
      else none
      else none
      else none
      else none
    else
      some (1, s7)
def l21_0D : Nat × Int := (0, 0)
@[reducible] def l21_0R (m n : Nat) (x0 : Q0) (s6 : Int) (s7 : Int) : Nat × Int := Option.getD (l21_0 m n x0 s6 s7) l21_0D
def l21_0H (x0 : Q0) (s6 : Int) (s7 : Int) : Env := ((.d (.sl (.pair (.sl (.pair .str .str)) (.int .i64)) x0)) :: .top :: .top :: .top :: .top :: (.d (.sl (.pair (.sl (.pair .str .str)) (.int .i64)) x0)) :: (.d (.int .i64 s6)) :: (.d (.int .i64 s7)) :: tp12 [])
def l21_0B (x0 : Q0) (s6 : Int) (s7 : Int) : Boxes := []
def l21_0E (x0 : Q0) (s6 : Int) (s7 : Int) : Nat → AEx × Env × Boxes
  | 0 => (.ret, [(.d (.sl (.pair (.sl (.pair .str .str)) (.int .i64)) x0)), .top, (.d (.bool true)), (.d (.int .i64 s7)), (.ptr 0 0), (.d (.sl (.pair (.sl (.pair .str .str)) (.int .i64)) x0)), (.d (.int .i64 s6)), (.d (.int .i64 s7)), (.d (.bool (decide (s7 < s6)))), (.d (.int .i64 s7)), (.cptr [(.sl (.pair .str .str) (List.getD x0 (Int.toNat s7) (([] : Q2), 0)).1), (.int .i64 (List.getD x0 (Int.toNat s7) (([] : Q2), 0)).2)] 0), (.agg [(.d (.sl (.pair .str .str) (List.getD x0 (Int.toNat s7) (([] : Q2), 0)).1)), (.d (.int .i64 (List.getD x0 (Int.toNat s7) (([] : Q2), 0)).2))]), (.d (.sl (.pair (.sl (.pair .str .str)) (.int .i64)) x0)), (.d (.int .i64 s7)), (.d (.sl (.pair (.sl (.pair .str .str)) (.int .i64)) (List.drop 0 (List.take (Int.toNat s7) x0)))), (.agg [(.d (.sl (.pair .str .str) (List.getD x0 (Int.toNat s7) (([] : Q2), 0)).1)), (.d (.int .i64 (List.getD x0 (Int.toNat s7) (([] : Q2), 0)).2))]), (.d (.sl (.pair .str .str) (pkeyG (List.getD x0 (Int.toNat s7) (([] : Q2), 0))))), (.d (.int .i64 (findG (List.drop 0 (List.take (Int.toNat s7) x0)) (pkeyG (List.getD x0 (Int.toNat s7) (([] : Q2), 0)))))), (.d (.bool (decide ((findG (List.drop 0 (List.take (Int.toNat s7) x0)) (pkeyG (List.getD x0 (Int.toNat s7) (([] : Q2), 0)))) ≥ 0)))), .top], [(.cells [(.d (.sl (.pair .str .str) (List.getD x0 (Int.toNat s7) (([] : Q2), 0)).1)), (.d (.int .i64 (List.getD x0 (Int.toNat s7) (([] : Q2), 0)).2))]), .dead, .dead, .dead, .dead, .dead, .dead, .dead, .dead, .dead, .dead, .dead, .dead, .dead, .dead, .dead, .dead, .dead, .dead, .dead, .dead, .dead, .dead, .dead, .dead, .dead, .dead, .dead, .dead])
  | _ => (.exit 0, ((.d (.sl (.pair (.sl (.pair .str .str)) (.int .i64)) x0)) :: .top :: .top :: .top :: .top :: (.d (.sl (.pair (.sl (.pair .str .str)) (.int .i64)) x0)) :: (.d (.int .i64 s6)) :: (.d (.int .i64 s7)) :: (.d (.bool (decide (s7 < s6)))) :: tp11 []), [])
noncomputable def lbl21_0 : AC := loopBody 225 body21
@[reducible] noncomputable def cb14 (m : Nat) := (evC byref (evCall F S25 (m + 24)) (m + 24) 0 (hds 21) lbl21_0)


theorem l21_0_step (m n : Nat) (ih : ∀ (x0 : Q0) (s6 : Int) (s7 : Int) (q : Nat × Int), l21_0 m n x0 s6 s7 = some q → (turns (hds 21 225) 0 225 (cb14 m) n (l21_0H x0 s6 s7) (l21_0B x0 s6 s7)).run = some (l21_0E (x0) (s6) (q.2) q.1)) (x0 : Q0) (s6 : Int) (s7 : Int) (q : Nat × Int) (h : l21_0 m (n + 1) x0 s6 s7 = some q) : (turns (hds 21 225) 0 225 (cb14 m) (n + 1) (l21_0H x0 s6 s7) (l21_0B x0 s6 s7)).run = some (l21_0E (x0) (s6) (q.2) q.1) := by
  rw [l21_0] at h
  refine ite_cases h (fun c0 h => ?_) (fun c0 h => ?_)
  · skip
    obtain ⟨c1, h⟩ := iY h
    obtain ⟨c2, h⟩ := iY h
    obtain ⟨c3, h⟩ := iY h
    obtain ⟨c4, h⟩ := iY h
    obtain ⟨c5, h⟩ := iY h
    refine ite_cases h (fun c6 h => ?_) (fun c6 h => ?_)
    · skip
      cases h
      refine turns_last (by simp) ?_
      exact M.run_of_path _ [tT, tT, tT, tT, tT, tT, tT] _ _ (by kernel_rfl) (all_t c0 (all_t c1 (all_t c2 (all_t c3 (all_t c4 (all_t c5 (all_t c6 all_nil)))))))
    · skip
      have ih := ih _ _ _ q h
      refine turns_step ?_ ih
      exact M.run_of_path _ [tT, tT, tT, tT, tT, tT, fF] _ _ (by kernel_rfl) (all_t c0 (all_t c1 (all_t c2 (all_t c3 (all_t c4 (all_t c5 (all_f c6 all_nil)))))))
  · skip
    cases h
    refine turns_last (by simp) ?_
    exact M.run_of_path _ [fF] _ _ (by kernel_rfl) (all_f c0 all_nil)
theorem l21_0_ok (m : Nat) : ∀ (n : Nat) (x0 : Q0) (s6 : Int) (s7 : Int) (q : Nat × Int), l21_0 m n x0 s6 s7 = some q → (turns (hds 21 225) 0 225 (cb14 m) n (l21_0H x0 s6 s7) (l21_0B x0 s6 s7)).run = some (l21_0E (x0) (s6) (q.2) q.1)
  | 0, x0, s6, s7, q, h => by cases h
  | n + 1, x0, s6, s7, q, h => l21_0_step m n (l21_0_ok m n) x0 s6 s7 q h

def p21 (m : Nat) (x0 : Q0) : Option (Bool) :=
  if (Option.isSome (l21_0 m (m + 24) x0 ((((List.length x0) : Nat) : Int)) 0)) = true then
  if ((l21_0R m (m + 24) x0 ((((List.length x0) : Nat) : Int)) 0).1 == 0) = true then
    some (true)
  else
    if ((l21_0R m (m + 24) x0 ((((List.length x0) : Nat) : Int)) 0).1 == 1) = true then
    some (false)
    else none
  else none
theorem p21_ok (m : Nat) (x0 : Q0) (q : Bool) (h : p21 m x0 = some q) : ∃ r B1, (evCall F S25 (m + 25) 21 [(.d (.sl (.pair (.sl (.pair .str .str)) (.int .i64)) x0))] []).run = some (r, B1) ∧ 0 ≤ B1.length ∧ wkR B1 [] r (.d (.bool (q))) ∧ wkBs B1 [] 0 [] := by
  unfold p21 at h
  obtain ⟨c0, h⟩ := iY h
  refine ite_cases h (fun c1 h => ?_) (fun c1 h => ?_)
  · skip
    cases h
    refine ⟨(.d (.bool true)), [], runT_ok (LS := (fun k => if k = 225 then some (l21_0E x0 (((((List.length x0) : Nat) : Int))) ((l21_0R m (m + 24) x0 ((((List.length x0) : Nat) : Int)) 0).2) 0) else none)) (fn := fn21) (vis := [(225, l21_0H x0 ((((List.length x0) : Nat) : Int)) 0, l21_0B x0 ((((List.length x0) : Nat) : Int)) 0)]) (by kernel_rfl) rfl (by kernel_rfl) (M.run_of_path _ [] _ _ (by kernel_rfl) all_nil) ?_, by simp, (wkR.one (wkV.one (wk1.eq rfl))), trivial⟩
    intro p hp p2 hq
    rcases List.mem_cons.1 hp with rfl | hp
    · skip
      have h3 := l21_0_ok m (m + 24) x0 ((((List.length x0) : Nat) : Int)) 0 _ (some_getD (d := l21_0D) c0)
      rw [eq_of_beq c1] at h3
      exact Eq.trans (Eq.mp (by kernel_rfl) h3) hq
    cases hp
  · skip
    obtain ⟨c2, h⟩ := iY h
    cases h
    refine ⟨(.d (.bool false)), [], runT_ok (LS := (fun k => if k = 225 then some (l21_0E x0 (((((List.length x0) : Nat) : Int))) ((l21_0R m (m + 24) x0 ((((List.length x0) : Nat) : Int)) 0).2) 1) else none)) (fn := fn21) (vis := [(225, l21_0H x0 ((((List.length x0) : Nat) : Int)) 0, l21_0B x0 ((((List.length x0) : Nat) : Int)) 0)]) (by kernel_rfl) rfl (by kernel_rfl) (M.run_of_path _ [] _ _ (by kernel_rfl) all_nil) ?_, by simp, (wkR.one (wkV.one (wk1.eq rfl))), trivial⟩
    intro p hp p2 hq
    rcases List.mem_cons.1 hp with rfl | hp
    · skip
      have h3 := l21_0_ok m (m + 24) x0 ((((List.length x0) : Nat) : Int)) 0 _ (some_getD (d := l21_0D) c0)
      rw [eq_of_beq c2] at h3
      exact Eq.trans (Eq.mp (by kernel_rfl) h3) hq
    cases hp

theorem fIdx_any (c : PT1 → Bool) : ∀ (l : VL) (k : Nat), (0 ≤ fIdx c l k) ↔ l.any c = true
  | [], k => by simp [fIdx]
  | x :: l, k => by
    rw [fIdx, List.any_cons]
    by_cases h : c x = true
    · rw [if_pos h, h]; simp
    · rw [if_neg h, fIdx_any c l (k + 1)]
      have : c x = false := by simpa using h
      rw [this, Bool.false_or]
def twiceFrom : VL → VL → Bool
  | _, [] => false
  | pre, x :: r => pre.any (fun p => pkeyG p == pkeyG x) || twiceFrom (pre ++ [x]) r
def twiceG (l : VL) : Bool := twiceFrom [] l
theorem twice_loop (m : Nat) (l : VL) (hb : l.length ≤ 1000000) (hx : ∀ p ∈ l, p.1.length ≤ 1000000) : ∀ (n k : Nat), k ≤ l.length → l.length - k < n →
    ∃ e j, l21_0 m n l (l.length : Nat) (k : Nat) = some (e, j) ∧ ((e = 0 ∧ twiceFrom (l.take k) (l.drop k) = true) ∨ (e = 1 ∧ twiceFrom (l.take k) (l.drop k) = false))
  | 0, k, _, h => by omega
  | n + 1, k, h1, h2 => by
    rw [l21_0]
    by_cases hk : k < l.length
    · have e1 : decide (((k : Nat) : Int) < (((List.length l) : Nat) : Int)) = true := decide_eq_true (by omega)
      have e2 : decide ((0 : Int) ≤ ((k : Nat) : Int)) = true := decide_eq_true (by omega)
      have e3 : (decide (0 ≤ ((k : Nat) : Int)) && decide (((k : Nat) : Int) ≤ (((List.length l) : Nat) : Int))) = true := by rw [e2, decide_eq_true (by omega)]; rfl
      have e7 : IntKind.wrap .i64 (((k : Nat) : Int) + (1)) = ((k + 1 : Nat) : Int) := by rw [wrap_id (by omega) (by omega)]; rfl
      have hq := hx _ (getD_mem l k (([] : LB), 0) hk)
      have ht := take_succ_getD l k (([] : LB), 0) hk
      have ih := twice_loop m l hb hx n (k + 1) (by omega) (by omega)
      rw [drop_getD l k (([] : LB), 0) hk, show Int.toNat ((k : Nat) : Int) = k from rfl, e7, if_pos e1, if_pos e2, if_pos e1, if_pos e3, List.drop_zero, twiceFrom]
      generalize l.getD k (([] : LB), 0) = q at *
      have hp : findPre (l.take k) (pkeyG q) = true := decide_eq_true ⟨by rw [List.length_take]; omega, fun p h => hx p (List.mem_of_mem_take h)⟩
      rw [if_pos (decide_eq_true hq), if_pos hp]
      have hf := fIdx_any (fun p => pkeyG p == pkeyG q) (l.take k) 0
      by_cases hc : (l.take k).any (fun p => pkeyG p == pkeyG q) = true
      · have hge : decide (findG (l.take k) (pkeyG q) ≥ 0) = true := decide_eq_true (hf.2 hc)
        rw [if_pos hge, hc]
        exact ⟨0, _, rfl, .inl ⟨rfl, rfl⟩⟩
      · have hn : ¬ findG (l.take k) (pkeyG q) ≥ 0 := fun h => hc (hf.1 h)
        have hc' : (l.take k).any (fun p => pkeyG p == pkeyG q) = false := by simpa using hc
        rw [if_neg (by simpa using hn), hc', Bool.false_or, ← ht]
        exact ih
    · have e1 : decide (((k : Nat) : Int) < (((List.length l) : Nat) : Int)) = false := decide_eq_false (by omega)
      rw [e1, if_neg (by simp), List.drop_eq_nil_of_le (by omega)]
      exact ⟨1, _, rfl, .inr ⟨rfl, rfl⟩⟩
theorem twice21 (l : VL) (h : vPre l = true) : ∃ m, p21 m l = some (twiceG l) := by
  have ⟨h1, h2⟩ := of_decide_eq_true h
  refine ⟨l.length, ?_⟩
  unfold p21 l21_0R twiceG
  obtain ⟨e, j, hr, hc⟩ := twice_loop l.length l h1 h2 (l.length + 24) 0 (by omega) (by omega)
  simp only [Int.natCast_zero, List.drop_zero, List.take_zero] at hr hc
  rw [hr]
  rcases hc with ⟨rfl, hc⟩ | ⟨rfl, hc⟩ <;> rw [hc] <;> rfl
def s21 : List AV → Boxes → M (AV × Boxes) := normS [.val (.sl (.pair (.sl (.pair .str .str)) (.int .i64)))] [] fun xs B => match xs, B with
  | [(.d (.sl (.pair (.sl (.pair .str .str)) (.int .i64)) c1))], [] => .chk (vPre c1) (.ret ((.d (.bool (twiceG c1))), []))
  | _, _ => .fail
theorem s21_at : CallAt Tryd.prog 21 s21 := by
  refine CallAt.norm (CallAt.weakE (g := fun n => evCall F S25 n 21) (fun n => evCall_atH mixed kinds hds S25 S25_ok n 21) fun xs B r' B' hr => ?_) _ _
  split at hr
  · rename_i c1
    obtain ⟨hp, hr⟩ := (M.run_chk _ _ _).1 hr
    simp only [M.run, Option.some.injEq, Prod.mk.injEq] at hr
    obtain ⟨rfl, rfl⟩ := hr
    obtain ⟨m, hm⟩ := twice21 c1 hp
    obtain ⟨r, B1, h1, h2, h3, h4⟩ := p21_ok m c1 _ hm
    exact ⟨m + 25, r, B1, h1, by simp, h2, h3, h4⟩
  · simp [M.run] at hr
noncomputable def S26 : FuncId → Option (List AV → Boxes → M (AV × Boxes)) := fun f => if f = 21 then some s21 else S25 f
theorem S26_ok : ∀ f s, S26 f = some s → CallAt Tryd.prog f s := by
  intro f s h
  unfold S26 at h
  split at h
  · rename_i e; subst e; cases h; exact s21_at
  · exact S25_ok f s h

end Go.Proofs.YtahdcmicifokgaaDoor.Dec
namespace Go.Proofs.YtahdcmicifokgaaDoor.Dec
open Go.Ev
set_option linter.unusedVariables false
set_option linter.unusedSimpArgs false
set_option maxRecDepth 100000
set_option maxHeartbeats 20000000
noncomputable def fn52 : AFn := (F 52).getD ⟨0, [], .bad, false, false, noHd⟩
noncomputable def body52 : AC := fn52.body
def p52 (m : Nat) (x0 : Int) (x1 : Int) (x2 : Int) : Option (Bool) :=
  if (x0 == (8)) = true then
    some ((x1 == x2))
  else
    if (x0 == (9)) = true then
      some ((x1 != x2))
    else
      if (x0 == (10)) = true then
        some (decide (x1 < x2))
      else
        if (x0 == (11)) = true then
          some (decide (x1 ≤ x2))
        else
          if (x0 == (12)) = true then
            some (decide (x1 > x2))
          else
            if (x0 == (13)) = true then
              some (decide (x1 ≥ x2))
            else
              some (false)
theorem p52_ok (m : Nat) (x0 : Int) (x1 : Int) (x2 : Int) (q : Bool) (h : p52 m x0 x1 x2 = some q) : ∃ r B1, (evCall F S26 (m + 25) 52 [(.d (.int .i64 x0)), (.d (.int .i64 x1)), (.d (.int .i64 x2))] []).run = some (r, B1) ∧ 0 ≤ B1.length ∧ wkR B1 [] r (.d (.bool (q))) ∧ wkBs B1 [] 0 [] := by
  unfold p52 at h
  refine ite_cases h (fun c0 h => ?_) (fun c0 h => ?_)
  · skip
    cases h
    refine ⟨(.d (.bool (x1 == x2))), [], runT_ok (LS := (fun k => none)) (fn := fn52) (vis := []) (by kernel_rfl) rfl (by kernel_rfl) (M.run_of_path _ [tT] _ _ (by kernel_rfl) (all_t c0 all_nil)) ?_, by simp, (wkR.one (wkV.one (wk1.eq rfl))), trivial⟩
    intro p hp; cases hp
  · skip
    refine ite_cases h (fun c1 h => ?_) (fun c1 h => ?_)
    · skip
      cases h
      refine ⟨(.d (.bool (x1 != x2))), [], runT_ok (LS := (fun k => none)) (fn := fn52) (vis := []) (by kernel_rfl) rfl (by kernel_rfl) (M.run_of_path _ [fF, tT] _ _ (by kernel_rfl) (all_f c0 (all_t c1 all_nil))) ?_, by simp, (wkR.one (wkV.one (wk1.eq rfl))), trivial⟩
      intro p hp; cases hp
    · skip
      refine ite_cases h (fun c2 h => ?_) (fun c2 h => ?_)
      · skip
        cases h
        refine ⟨(.d (.bool (decide (x1 < x2)))), [], runT_ok (LS := (fun k => none)) (fn := fn52) (vis := []) (by kernel_rfl) rfl (by kernel_rfl) (M.run_of_path _ [fF, fF, tT] _ _ (by kernel_rfl) (all_f c0 (all_f c1 (all_t c2 all_nil)))) ?_, by simp, (wkR.one (wkV.one (wk1.eq rfl))), trivial⟩
        intro p hp; cases hp
      · skip
        refine ite_cases h (fun c3 h => ?_) (fun c3 h => ?_)
        · skip
          cases h
          refine ⟨(.d (.bool (decide (x1 ≤ x2)))), [], runT_ok (LS := (fun k => none)) (fn := fn52) (vis := []) (by kernel_rfl) rfl (by kernel_rfl) (M.run_of_path _ [fF, fF, fF, tT] _ _ (by kernel_rfl) (all_f c0 (all_f c1 (all_f c2 (all_t c3 all_nil))))) ?_, by simp, (wkR.one (wkV.one (wk1.eq rfl))), trivial⟩
          intro p hp; cases hp
        · skip
          refine ite_cases h (fun c4 h => ?_) (fun c4 h => ?_)
          · skip
            cases h
            refine ⟨(.d (.bool (decide (x1 > x2)))), [], runT_ok (LS := (fun k => none)) (fn := fn52) (vis := []) (by kernel_rfl) rfl (by kernel_rfl) (M.run_of_path _ [fF, fF, fF, fF, tT] _ _ (by kernel_rfl) (all_f c0 (all_f c1 (all_f c2 (all_f c3 (all_t c4 all_nil)))))) ?_, by simp, (wkR.one (wkV.one (wk1.eq rfl))), trivial⟩
            intro p hp; cases hp
          · skip
            refine ite_cases h (fun c5 h => ?_) (fun c5 h => ?_)
            · skip
              cases h
              refine ⟨(.d (.bool (decide (x1 ≥ x2)))), [], runT_ok (LS := (fun k => none)) (fn := fn52) (vis := []) (by kernel_rfl) rfl (by kernel_rfl) (M.run_of_path _ [fF, fF, fF, fF, fF, tT] _ _ (by kernel_rfl) (all_f c0 (all_f c1 (all_f c2 (all_f c3 (all_f c4 (all_t c5 all_nil))))))) ?_, by simp, (wkR.one (wkV.one (wk1.eq rfl))), trivial⟩
              intro p hp; cases hp
            · skip
              cases h
              refine ⟨(.d (.bool false)), [], runT_ok (LS := (fun k => none)) (fn := fn52) (vis := []) (by kernel_rfl) rfl (by kernel_rfl) (M.run_of_path _ [fF, fF, fF, fF, fF, fF] _ _ (by kernel_rfl) (all_f c0 (all_f c1 (all_f c2 (all_f c3 (all_f c4 (all_f c5 all_nil))))))) ?_, by simp, (wkR.one (wkV.one (wk1.eq rfl))), trivial⟩
              intro p hp; cases hp

def cmpG (k a b : Int) : Bool := if k = 8 then a == b else if k = 9 then a != b else if k = 10 then decide (a < b) else if k = 11 then decide (a ≤ b) else if k = 12 then decide (a > b) else if k = 13 then decide (a ≥ b) else false
theorem cmp52 (k a b : Int) (_ : true = true) : ∃ m, p52 m k a b = some (cmpG k a b) := by
  refine ⟨0, ?_⟩
  unfold p52 cmpG
  simp only [beq_iff_eq]
  repeat' split
  all_goals rfl
def s52 : List AV → Boxes → M (AV × Boxes) := normS [.val (.int .i64), .val (.int .i64), .val (.int .i64)] [] fun xs B => match xs, B with
  | [(.d (.int .i64 c1)), (.d (.int .i64 c2)), (.d (.int .i64 c3))], [] => .chk (true) (.ret ((.d (.bool (cmpG c1 c2 c3))), []))
  | _, _ => .fail
theorem s52_at : CallAt Tryd.prog 52 s52 := by
  refine CallAt.norm (CallAt.weakE (g := fun n => evCall F S26 n 52) (fun n => evCall_atH mixed kinds hds S26 S26_ok n 52) fun xs B r' B' hr => ?_) _ _
  split at hr
  · rename_i c1 c2 c3
    obtain ⟨hp, hr⟩ := (M.run_chk _ _ _).1 hr
    simp only [M.run, Option.some.injEq, Prod.mk.injEq] at hr
    obtain ⟨rfl, rfl⟩ := hr
    obtain ⟨m, hm⟩ := cmp52 c1 c2 c3 hp
    obtain ⟨r, B1, h1, h2, h3, h4⟩ := p52_ok m c1 c2 c3 _ hm
    exact ⟨m + 25, r, B1, h1, by simp, h2, h3, h4⟩
  · simp [M.run] at hr
noncomputable def S27 : FuncId → Option (List AV → Boxes → M (AV × Boxes)) := fun f => if f = 52 then some s52 else S26 f
theorem S27_ok : ∀ f s, S27 f = some s → CallAt Tryd.prog f s := by
  intro f s h
  unfold S27 at h
  split at h
  · rename_i e; subst e; cases h; exact s52_at
  · exact S26_ok f s h

noncomputable def fn26 : AFn := (F 26).getD ⟨0, [], .bad, false, false, noHd⟩
noncomputable def body26 : AC := fn26.body
def l26_0 (m : Nat) : Nat → Int → Q0 → Q0 → Int → Int → Q0 → Option (Nat × Int × (Q0))
  | 0, _, _, _, _, _, _ => none
  | n + 1, x0, x1, x2, s19, s20, b0 => if decide (s20 < s19) = true then
      if decide (0 ≤ s20) = true then
      if decide (s20 < (((List.length x1) : Nat) : Int)) = true then
      if decide (List.length (List.getD x1 (Int.toNat s20) (([] : Q2), 0)).1 ≤ 1000000) = true then
      if findPre x2 (pkeyG (List.getD x1 (Int.toNat s20) (([] : Q2), 0))) = true then
      if decide ((findG x2 (pkeyG (List.getD x1 (Int.toNat s20) (([] : Q2), 0)))) ≥ 0) = true then
        if decide (0 ≤ (findG x2 (pkeyG (List.getD x1 (Int.toNat s20) (([] : Q2), 0))))) = true then
        if decide ((findG x2 (pkeyG (List.getD x1 (Int.toNat s20) (([] : Q2), 0)))) < (((List.length x2) : Nat) : Int)) = true then
        if (cmpG x0 (List.getD x1 (Int.toNat s20) (([] : Q2), 0)).2 (List.getD x2 (Int.toNat (findG x2 (pkeyG (List.getD x1 (Int.toNat s20) (([] : Q2), 0))))) (([] : Q2), 0)).2) = true then
          if decide ((((List.length b0) + 1) * 32) ≤ 70368744177664) = true then
          l26_0 m n x0 x1 x2 s19 ((IntKind.wrap .i64 (s20 + (1)))) ((b0 ++ [(List.getD x1 (Int.toNat s20) (([] : Q2), 0))]))
          else none
        else
          l26_0 m n x0 x1 x2 s19 ((IntKind.wrap .i64 (s20 + (1)))) b0
        else none
        else none
      else
        l26_0 m n x0 x1 x2 s19 ((IntKind.wrap .i64 (s20 + (1)))) b0
      else none
      else none
      else none
      else none
    else
      some (0, s20, b0)
def l26_0D : Nat × Int × (Q0) := (0, 0, [])
@[reducible] def l26_0R (m n : Nat) (x0 : Int) (x1 : Q0) (x2 : Q0) (s19 : Int) (s20 : Int) (b0 : Q0) : Nat × Int × (Q0) := Option.getD (l26_0 m n x0 x1 x2 s19 s20 b0) l26_0D
def l26_0H (x0 : Int) (x1 : Q0) (x2 : Q0) (s19 : Int) (s20 : Int) (b0 : Q0) : Env := ((.d (.int .i64 x0)) :: .top :: (.d (.sl (.pair (.sl (.pair .str .str)) (.int .i64)) x2)) :: .top :: .top :: .top :: .top :: .top :: (.sr 0 0 (List.length b0) 2 none) :: tp9 ((.d (.sl (.pair (.sl (.pair .str .str)) (.int .i64)) x1)) :: (.d (.int .i64 s19)) :: (.d (.int .i64 s20)) :: tp27 []))
def l26_0B (x0 : Int) (x1 : Q0) (x2 : Q0) (s19 : Int) (s20 : Int) (b0 : Q0) : Boxes := [(.arr (.pair (.sl (.pair .str .str)) (.int .i64)) b0 true)]
def l26_0E (x0 : Int) (x1 : Q0) (x2 : Q0) (s19 : Int) (s20 : Int) (b0 : Q0) : Nat → AEx × Env × Boxes
  | _ => (.exit 0, ((.d (.int .i64 x0)) :: .top :: (.d (.sl (.pair (.sl (.pair .str .str)) (.int .i64)) x2)) :: .top :: .top :: .top :: .top :: .top :: (.sr 0 0 (List.length b0) 2 none) :: tp9 ((.d (.sl (.pair (.sl (.pair .str .str)) (.int .i64)) x1)) :: (.d (.int .i64 s19)) :: (.d (.int .i64 s20)) :: (.d (.bool (decide (s20 < s19)))) :: tp26 [])), [(.arr (.pair (.sl (.pair .str .str)) (.int .i64)) b0 true)])
noncomputable def lbl26_0 : AC := loopBody 1835269 body26
@[reducible] noncomputable def cb15 (m : Nat) := (evC byref (evCall F S27 (m + 24)) (m + 24) 0 (hds 26) lbl26_0)


theorem l26_0_step (m n : Nat) (ih : ∀ (x0 : Int) (x1 : Q0) (x2 : Q0) (s19 : Int) (s20 : Int) (b0 : Q0) (q : Nat × Int × (Q0)), l26_0 m n x0 x1 x2 s19 s20 b0 = some q → (turns (hds 26 1835269) 0 1835269 (cb15 m) n (l26_0H x0 x1 x2 s19 s20 b0) (l26_0B x0 x1 x2 s19 s20 b0)).run = some (l26_0E (x0) (x1) (x2) (s19) (q.2.1) (q.2.2) q.1)) (x0 : Int) (x1 : Q0) (x2 : Q0) (s19 : Int) (s20 : Int) (b0 : Q0) (q : Nat × Int × (Q0)) (h : l26_0 m (n + 1) x0 x1 x2 s19 s20 b0 = some q) : (turns (hds 26 1835269) 0 1835269 (cb15 m) (n + 1) (l26_0H x0 x1 x2 s19 s20 b0) (l26_0B x0 x1 x2 s19 s20 b0)).run = some (l26_0E (x0) (x1) (x2) (s19) (q.2.1) (q.2.2) q.1) := by
  rw [l26_0] at h
  refine ite_cases h (fun c0 h => ?_) (fun c0 h => ?_)
  · skip
    obtain ⟨c1, h⟩ := iY h
    obtain ⟨c2, h⟩ := iY h
    obtain ⟨c3, h⟩ := iY h
    obtain ⟨c4, h⟩ := iY h
    refine ite_cases h (fun c5 h => ?_) (fun c5 h => ?_)
    · skip
      obtain ⟨c11, h⟩ := iY h
      obtain ⟨c12, h⟩ := iY h
      refine ite_cases h (fun c18 h => ?_) (fun c18 h => ?_)
      · skip
        obtain ⟨c20, h⟩ := iY h
        have ih := ih _ _ _ _ _ _ q h
        have ht : (turn (hds 26 1835269) 0 1835269 (cb15 m) (l26_0H x0 x1 x2 s19 s20 b0) (l26_0B x0 x1 x2 s19 s20 b0)).run = some (.normal, ((.d (.int .i64 x0)) :: .top :: (.d (.sl (.pair (.sl (.pair .str .str)) (.int .i64)) x2)) :: .top :: .top :: .top :: .top :: .top :: (.sr 0 0 ((List.length b0) + 1) 2 none) :: tp9 ((.d (.sl (.pair (.sl (.pair .str .str)) (.int .i64)) x1)) :: (.d (.int .i64 s19)) :: (.d (.int .i64 (IntKind.wrap .i64 (s20 + (1))))) :: tp27 [])), [(.arr (.pair (.sl (.pair .str .str)) (.int .i64)) (b0 ++ [(List.getD x1 (Int.toNat s20) (([] : Q2), 0))]) true)]) := M.run_of_path _ [tT, tT, tT, tT, tT, tT, tT, tT, tT, tT, tT, tT, tT, tT, tT, tT, tT, tT, tT, tT, tT, tT] _ _ (by kernel_rfl) (all_t c0 (all_t c1 (all_t c2 (all_t c3 (all_t c4 (all_t c5 (all_t c5 (all_t c5 (all_t c5 (all_t c5 (all_t c5 (all_t c11 (all_t c12 (all_t c5 (all_t c5 (all_t c5 (all_t rfl (all_t c5 (all_t c18 (all_t rfl (all_t c20 (all_t (show decide ((List.length b0) = (List.length b0)) = true from decide_eq_true rfl) all_nil))))))))))))))))))))))
        refine turns_step ht (turns_eq ?_ ?_ ih)
        · unfold l26_0H
          first | (simp; done) | (simp [Nat.add_assoc]; done) | (simp; omega)
        · unfold l26_0B
          simp
      · skip
        have ih := ih _ _ _ _ _ _ q h
        refine turns_step ?_ ih
        exact M.run_of_path _ [tT, tT, tT, tT, tT, tT, tT, tT, tT, tT, tT, tT, tT, tT, tT, tT, tT, tT, fF] _ _ (by kernel_rfl) (all_t c0 (all_t c1 (all_t c2 (all_t c3 (all_t c4 (all_t c5 (all_t c5 (all_t c5 (all_t c5 (all_t c5 (all_t c5 (all_t c11 (all_t c12 (all_t c5 (all_t c5 (all_t c5 (all_t rfl (all_t c5 (all_f c18 all_nil)))))))))))))))))))
    · skip
      have ih := ih _ _ _ _ _ _ q h
      refine turns_step ?_ ih
      exact M.run_of_path _ [tT, tT, tT, tT, tT, fF, fF, fF, fF, fF, fF, fF, fF, fF, fF, fF] _ _ (by kernel_rfl) (all_t c0 (all_t c1 (all_t c2 (all_t c3 (all_t c4 (all_f c5 (all_f c5 (all_f c5 (all_f c5 (all_f c5 (all_f c5 (all_f c5 (all_f c5 (all_f c5 (all_f c5 (all_f Bool.false_ne_true all_nil))))))))))))))))
  · skip
    cases h
    refine turns_last (by simp) ?_
    exact M.run_of_path _ [fF] _ _ (by kernel_rfl) (all_f c0 all_nil)
theorem l26_0_ok (m : Nat) : ∀ (n : Nat) (x0 : Int) (x1 : Q0) (x2 : Q0) (s19 : Int) (s20 : Int) (b0 : Q0) (q : Nat × Int × (Q0)), l26_0 m n x0 x1 x2 s19 s20 b0 = some q → (turns (hds 26 1835269) 0 1835269 (cb15 m) n (l26_0H x0 x1 x2 s19 s20 b0) (l26_0B x0 x1 x2 s19 s20 b0)).run = some (l26_0E (x0) (x1) (x2) (s19) (q.2.1) (q.2.2) q.1)
  | 0, x0, x1, x2, s19, s20, b0, q, h => by cases h
  | n + 1, x0, x1, x2, s19, s20, b0, q, h => l26_0_step m n (l26_0_ok m n) x0 x1 x2 s19 s20 b0 q h

def p26 (m : Nat) (x0 : Int) (x1 : Q0) (x2 : Q0) : Option ((Q0) × Int) :=
  if vPre x1 = true then
  if (twiceG x1) = true then
    some (([] : Q0), (5))
  else
    if vPre x2 = true then
    if (twiceG x2) = true then
      some (([] : Q0), (5))
    else
      if (Option.isSome (l26_0 m (m + 24) x0 x1 x2 ((((List.length x1) : Nat) : Int)) 0 (([] : Q0)))) = true then
      if sortPre (List.take (List.length (l26_0R m (m + 24) x0 x1 x2 ((((List.length x1) : Nat) : Int)) 0 (([] : Q0))).2.2) (List.drop 0 (l26_0R m (m + 24) x0 x1 x2 ((((List.length x1) : Nat) : Int)) 0 (([] : Q0))).2.2)) = true then
      some ((sortG (List.take (List.length (l26_0R m (m + 24) x0 x1 x2 ((((List.length x1) : Nat) : Int)) 0 (([] : Q0))).2.2) (List.drop 0 (l26_0R m (m + 24) x0 x1 x2 ((((List.length x1) : Nat) : Int)) 0 (([] : Q0))).2.2))), (0))
      else none
      else none
    else none
  else none
theorem p26_ok (m : Nat) (x0 : Int) (x1 : Q0) (x2 : Q0) (q : (Q0) × Int) (h : p26 m x0 x1 x2 = some q) : ∃ r B1, (evCall F S27 (m + 25) 26 [(.d (.int .i64 x0)), (.d (.sl (.pair (.sl (.pair .str .str)) (.int .i64)) x1)), (.d (.sl (.pair (.sl (.pair .str .str)) (.int .i64)) x2))] []).run = some (r, B1) ∧ 0 ≤ B1.length ∧ wkR B1 [] r (.tup [(.d (.sl (.pair (.sl (.pair .str .str)) (.int .i64)) q.1)), (.d (.int .i64 q.2))]) ∧ wkBs B1 [] 0 [] := by
  unfold p26 at h
  obtain ⟨c0, h⟩ := iY h
  refine ite_cases h (fun c1 h => ?_) (fun c1 h => ?_)
  · skip
    cases h
    refine ⟨(.tup [(.d (.sl (.pair (.sl (.pair .str .str)) (.int .i64)) ([] : Q0))), (.d (.int .i64 (5)))]), [], runT_ok (LS := (fun k => none)) (fn := fn26) (vis := []) (by kernel_rfl) rfl (by kernel_rfl) (M.run_of_path _ [tT, tT, tT, tT, tT, tT] _ _ (by kernel_rfl) (all_t c0 (all_t c1 (all_t c1 (all_t c1 (all_t rfl (all_t rfl all_nil))))))) ?_, by simp, (wkR.tup (wkVs.cons (wkV.one (wk1.eq rfl)) (wkVs.cons (wkV.one (wk1.eq rfl)) wkVs.nil))), trivial⟩
    intro p hp; cases hp
  · skip
    obtain ⟨c3, h⟩ := iY h
    refine ite_cases h (fun c5 h => ?_) (fun c5 h => ?_)
    · skip
      cases h
      refine ⟨(.tup [(.d (.sl (.pair (.sl (.pair .str .str)) (.int .i64)) ([] : Q0))), (.d (.int .i64 (5)))]), [], runT_ok (LS := (fun k => none)) (fn := fn26) (vis := []) (by kernel_rfl) rfl (by kernel_rfl) (M.run_of_path _ [tT, fF, fF, tT, fF, tT, tT] _ _ (by kernel_rfl) (all_t c0 (all_f c1 (all_f c1 (all_t c3 (all_f c1 (all_t c5 (all_t rfl all_nil)))))))) ?_, by simp, (wkR.tup (wkVs.cons (wkV.one (wk1.eq rfl)) (wkVs.cons (wkV.one (wk1.eq rfl)) wkVs.nil))), trivial⟩
      intro p hp; cases hp
    · skip
      obtain ⟨c6, h⟩ := iY h
      obtain ⟨c8, h⟩ := iY h
      cases h
      refine ⟨(.tup [(.d (.sl (.pair (.sl (.pair .str .str)) (.int .i64)) (sortG (List.take (List.length (l26_0R m (m + 24) x0 x1 x2 ((((List.length x1) : Nat) : Int)) 0 (([] : Q0))).2.2) (List.drop 0 (l26_0R m (m + 24) x0 x1 x2 ((((List.length x1) : Nat) : Int)) 0 (([] : Q0))).2.2))))), (.d (.int .i64 (0)))]), [], runT_ok (LS := (fun k => if k = 1835269 then some (l26_0E x0 x1 x2 (((((List.length x1) : Nat) : Int))) ((l26_0R m (m + 24) x0 x1 x2 ((((List.length x1) : Nat) : Int)) 0 (([] : Q0))).2.1) ((l26_0R m (m + 24) x0 x1 x2 ((((List.length x1) : Nat) : Int)) 0 (([] : Q0))).2.2) 0) else none)) (fn := fn26) (vis := [(1835269, l26_0H x0 x1 x2 ((((List.length x1) : Nat) : Int)) 0 (([] : Q0)), l26_0B x0 x1 x2 ((((List.length x1) : Nat) : Int)) 0 (([] : Q0)))]) (by kernel_rfl) rfl (by kernel_rfl) (M.run_of_path _ [tT, fF, fF, tT, fF, fF, tT, tT] _ _ (by kernel_rfl) (all_t c0 (all_f c1 (all_f c1 (all_t c3 (all_f c1 (all_f c5 (all_t (show decide ((0 + (List.length (l26_0R m (m + 24) x0 x1 x2 ((((List.length x1) : Nat) : Int)) 0 (([] : Q0))).2.2)) ≤ (List.length (l26_0R m (m + 24) x0 x1 x2 ((((List.length x1) : Nat) : Int)) 0 (([] : Q0))).2.2)) = true from decide_eq_true (Nat.le_of_eq (Nat.zero_add _))) (all_t c8 all_nil))))))))) ?_, by simp, (wkR.tup (wkVs.cons (wkV.one (wk1.eq rfl)) (wkVs.cons (wkV.one (wk1.eq rfl)) wkVs.nil))), trivial⟩
      intro p hp p2 hq
      rcases List.mem_cons.1 hp with rfl | hp
      · skip
        have h3 := l26_0_ok m (m + 24) x0 x1 x2 ((((List.length x1) : Nat) : Int)) 0 (([] : Q0)) _ (some_getD (d := l26_0D) c6)
        exact Eq.trans (Eq.mp (by kernel_rfl) h3) hq
      cases hp

theorem fIdx_lt (c : PT1 → Bool) : ∀ (l : VL) (k : Nat), fIdx c l k < ((k + l.length : Nat) : Int) ∨ fIdx c l k = -1
  | [], k => .inr rfl
  | x :: l, k => by
    rw [fIdx]
    by_cases h : c x = true
    · rw [if_pos h, List.length_cons]; exact .inl (by omega)
    · rw [if_neg h, List.length_cons]
      rcases fIdx_lt c l (k + 1) with h | h
      · exact .inl (by omega)
      · exact .inr h
def hasK (l : VL) (k : LB) : Bool := l.any fun p => pkeyG p == k
def atK (l : VL) (k : LB) : Int := (l.getD (findG l k).toNat (([] : LB), 0)).2
theorem find_has (l : VL) (k : LB) : (findG l k ≥ 0) ↔ hasK l k = true := fIdx_any _ l 0
theorem find_lt {l : VL} {k : LB} (h : findG l k ≥ 0) : findG l k < ((l.length : Nat) : Int) := by
  rcases fIdx_lt (fun p => pkeyG p == k) l 0 with q | q
  · rw [Nat.zero_add] at q; exact q
  · have : findG l k = -1 := q
    omega
theorem sort_v {l : VL} (h : sortPre l = true) : vPre l = true := by
  obtain ⟨h1, h2⟩ := of_decide_eq_true h
  exact decide_eq_true ⟨by omega, fun p hp => (of_decide_eq_true (h2 p hp)).1⟩
theorem sort_sub {l r : VL} (h : sortPre l = true) (h1 : r.length < 20) (h2 : ∀ p ∈ r, p ∈ l) : sortPre r = true := by
  obtain ⟨g1, g2⟩ := of_decide_eq_true h
  exact decide_eq_true ⟨h1, fun p hp => g2 p (h2 p hp)⟩
def twoPre (a b : VL) : Bool := sortPre a && (sortPre b && decide (a.length + b.length < 20))
theorem two_of {a b : VL} (h : twoPre a b = true) : sortPre a = true ∧ sortPre b = true ∧ a.length + b.length < 20 := by
  unfold twoPre at h
  rw [Bool.and_eq_true, Bool.and_eq_true] at h
  exact ⟨h.1, h.2.1, of_decide_eq_true h.2.2⟩
def fpG (kind : Int) (b : VL) (p : PT1) : Bool := hasK b (pkeyG p) && cmpG kind p.2 (atK b (pkeyG p))
def filtG (kind : Int) (a b : VL) : VL × Int := if twiceG a = true then ([], 5) else if twiceG b = true then ([], 5) else (sortG (a.filter (fpG kind b)), 0)
theorem filt_loop (m : Nat) (kind : Int) (a b : VL) (ha : vPre a = true) (hb : vPre b = true) : ∀ (n k : Nat) (out : VL), k ≤ a.length → a.length - k < n → out.length ≤ k →
    ∃ j, l26_0 m n kind a b ((a.length : Nat) : Int) (k : Nat) out = some (0, j, out ++ (a.drop k).filter (fpG kind b))
  | 0, k, _, _, h, _ => by omega
  | n + 1, k, out, h1, h2, h3 => by
    rw [l26_0]
    obtain ⟨a1, a2⟩ := of_decide_eq_true ha
    by_cases hk : k < a.length
    · have e1 : decide (((k : Nat) : Int) < (((List.length a) : Nat) : Int)) = true := decide_eq_true (by omega)
      have e2 : decide ((0 : Int) ≤ ((k : Nat) : Int)) = true := decide_eq_true (by omega)
      have e4 : decide ((((List.length out) + 1) * 32) ≤ 70368744177664) = true := decide_eq_true (by omega)
      have e7 : IntKind.wrap .i64 (((k : Nat) : Int) + (1)) = ((k + 1 : Nat) : Int) := by rw [wrap_id (by omega) (by omega)]; rfl
      have hq := a2 _ (getD_mem a k (([] : LB), 0) hk)
      rw [drop_getD a k (([] : LB), 0) hk, show Int.toNat ((k : Nat) : Int) = k from rfl, e7, if_pos e1, if_pos e2, if_pos e1, if_pos e4, List.filter_cons]
      generalize a.getD k (([] : LB), 0) = q at hq
      have hp : findPre b (pkeyG q) = true := hb
      have ih := fun out' h => filt_loop m kind a b ha hb n (k + 1) out' (by omega) (by omega) h
      rw [if_pos (decide_eq_true hq), if_pos hp]
      have hfp : fpG kind b q = (hasK b (pkeyG q) && cmpG kind q.2 (atK b (pkeyG q))) := rfl
      rw [hfp]
      by_cases hc : findG b (pkeyG q) ≥ 0
      · have hh : hasK b (pkeyG q) = true := (find_has _ _).1 hc
        have hlt := find_lt hc
        rw [if_pos (decide_eq_true hc), if_pos (decide_eq_true (by omega)), if_pos (decide_eq_true hlt), hh, Bool.true_and]
        have hat : (b.getD (findG b (pkeyG q)).toNat (([] : LB), 0)).2 = atK b (pkeyG q) := rfl
        rw [hat]
        by_cases hd : cmpG kind q.2 (atK b (pkeyG q)) = true
        · rw [if_pos hd, if_pos hd]
          obtain ⟨j, hj⟩ := ih (out ++ [q]) (by simp; omega)
          exact ⟨j, by rw [hj]; simp⟩
        · rw [if_neg hd, if_neg hd]
          exact ih out (by omega)
      · have hh : hasK b (pkeyG q) = false := by
          cases h : hasK b (pkeyG q) with
          | false => rfl
          | true => exact absurd ((find_has _ _).2 h) hc
        rw [if_neg (by simpa using hc), hh, Bool.false_and, if_neg (by simp)]
        exact ih out (by omega)
    · have e1 : decide (((k : Nat) : Int) < (((List.length a) : Nat) : Int)) = false := decide_eq_false (by omega)
      rw [e1, if_neg (by simp), List.drop_eq_nil_of_le (by omega)]
      exact ⟨((k : Nat) : Int), by simp⟩
theorem filt26 (kind : Int) (a b : VL) (h : twoPre a b = true) : ∃ m, p26 m kind a b = some (filtG kind a b) := by
  obtain ⟨ha, hb, hl⟩ := two_of h
  refine ⟨a.length, ?_⟩
  unfold p26 filtG
  rw [if_pos (sort_v ha), if_pos (sort_v hb)]
  by_cases t1 : twiceG a = true
  · rw [if_pos t1, if_pos t1]
  · rw [if_neg t1, if_neg t1]
    by_cases t2 : twiceG b = true
    · rw [if_pos t2, if_pos t2]
    · rw [if_neg t2, if_neg t2]
      obtain ⟨j, hj⟩ := filt_loop a.length kind a b (sort_v ha) (sort_v hb) (a.length + 24) 0 [] (by omega) (by omega) (by simp)
      rw [Int.natCast_zero, List.drop_zero, List.nil_append] at hj
      unfold l26_0R
      rw [hj]
      have hs : sortPre (a.filter (fpG kind b)) = true := sort_sub ha (by have := List.length_filter_le (fpG kind b) a; omega) (fun p hp => (List.mem_filter.1 hp).1)
      simp only [Option.isSome_some, Option.getD_some, ↓reduceIte, List.drop_zero, List.take_length, hs]
def s26 : List AV → Boxes → M (AV × Boxes) := normS [.val (.int .i64), .val (.sl (.pair (.sl (.pair .str .str)) (.int .i64))), .val (.sl (.pair (.sl (.pair .str .str)) (.int .i64)))] [] fun xs B => match xs, B with
  | [(.d (.int .i64 c1)), (.d (.sl (.pair (.sl (.pair .str .str)) (.int .i64)) c2)), (.d (.sl (.pair (.sl (.pair .str .str)) (.int .i64)) c3))], [] => .chk (twoPre c2 c3) (.ret ((.tup [(.d (.sl (.pair (.sl (.pair .str .str)) (.int .i64)) (filtG c1 c2 c3).1)), (.d (.int .i64 (filtG c1 c2 c3).2))]), []))
  | _, _ => .fail
theorem s26_at : CallAt Tryd.prog 26 s26 := by
  refine CallAt.norm (CallAt.weakE (g := fun n => evCall F S27 n 26) (fun n => evCall_atH mixed kinds hds S27 S27_ok n 26) fun xs B r' B' hr => ?_) _ _
  split at hr
  · rename_i c1 c2 c3
    obtain ⟨hp, hr⟩ := (M.run_chk _ _ _).1 hr
    simp only [M.run, Option.some.injEq, Prod.mk.injEq] at hr
    obtain ⟨rfl, rfl⟩ := hr
    obtain ⟨m, hm⟩ := filt26 c1 c2 c3 hp
    obtain ⟨r, B1, h1, h2, h3, h4⟩ := p26_ok m c1 c2 c3 _ hm
    exact ⟨m + 25, r, B1, h1, by simp, h2, h3, h4⟩
  · simp [M.run] at hr
noncomputable def S28 : FuncId → Option (List AV → Boxes → M (AV × Boxes)) := fun f => if f = 26 then some s26 else S27 f
theorem S28_ok : ∀ f s, S28 f = some s → CallAt Tryd.prog f s := by
  intro f s h
  unfold S28 at h
  split at h
  · rename_i e; subst e; cases h; exact s26_at
  · exact S27_ok f s h

noncomputable def fn28 : AFn := (F 28).getD ⟨0, [], .bad, false, false, noHd⟩
noncomputable def body28 : AC := fn28.body
def l28_0 (m : Nat) : Nat → Int → Q0 → Int → Int → Int → Q0 → Option (Nat × Int × (Q0))
  | 0, _, _, _, _, _, _ => none
  | n + 1, x0, x1, x2, s11, s12, b0 => if decide (s12 < s11) = true then
      if decide (0 ≤ s12) = true then
      if decide (s12 < (((List.length x1) : Nat) : Int)) = true then
      if (cmpG x0 (List.getD x1 (Int.toNat s12) (([] : Q2), 0)).2 x2) = true then
        if decide ((((List.length b0) + 1) * 32) ≤ 70368744177664) = true then
        l28_0 m n x0 x1 x2 s11 ((IntKind.wrap .i64 (s12 + (1)))) ((b0 ++ [(List.getD x1 (Int.toNat s12) (([] : Q2), 0))]))
        else none
      else
        l28_0 m n x0 x1 x2 s11 ((IntKind.wrap .i64 (s12 + (1)))) b0
      else none
      else none
    else
      some (0, s12, b0)
def l28_0D : Nat × Int × (Q0) := (0, 0, [])
@[reducible] def l28_0R (m n : Nat) (x0 : Int) (x1 : Q0) (x2 : Int) (s11 : Int) (s12 : Int) (b0 : Q0) : Nat × Int × (Q0) := Option.getD (l28_0 m n x0 x1 x2 s11 s12 b0) l28_0D
def l28_0H (x0 : Int) (x1 : Q0) (x2 : Int) (s11 : Int) (s12 : Int) (b0 : Q0) : Env := ((.d (.int .i64 x0)) :: .top :: (.d (.int .i64 x2)) :: .top :: .top :: .top :: .top :: (.sr 0 0 (List.length b0) 2 none) :: .top :: .top :: (.d (.sl (.pair (.sl (.pair .str .str)) (.int .i64)) x1)) :: (.d (.int .i64 s11)) :: (.d (.int .i64 s12)) :: tp15 [])
def l28_0B (x0 : Int) (x1 : Q0) (x2 : Int) (s11 : Int) (s12 : Int) (b0 : Q0) : Boxes := [(.arr (.pair (.sl (.pair .str .str)) (.int .i64)) b0 true)]
def l28_0E (x0 : Int) (x1 : Q0) (x2 : Int) (s11 : Int) (s12 : Int) (b0 : Q0) : Nat → AEx × Env × Boxes
  | _ => (.exit 0, ((.d (.int .i64 x0)) :: .top :: (.d (.int .i64 x2)) :: .top :: .top :: .top :: .top :: (.sr 0 0 (List.length b0) 2 none) :: .top :: .top :: (.d (.sl (.pair (.sl (.pair .str .str)) (.int .i64)) x1)) :: (.d (.int .i64 s11)) :: (.d (.int .i64 s12)) :: (.d (.bool (decide (s12 < s11)))) :: tp14 []), [(.arr (.pair (.sl (.pair .str .str)) (.int .i64)) b0 true)])
noncomputable def lbl28_0 : AC := loopBody 7301 body28
@[reducible] noncomputable def cb16 (m : Nat) := (evC byref (evCall F S28 (m + 24)) (m + 24) 0 (hds 28) lbl28_0)


theorem l28_0_step (m n : Nat) (ih : ∀ (x0 : Int) (x1 : Q0) (x2 : Int) (s11 : Int) (s12 : Int) (b0 : Q0) (q : Nat × Int × (Q0)), l28_0 m n x0 x1 x2 s11 s12 b0 = some q → (turns (hds 28 7301) 0 7301 (cb16 m) n (l28_0H x0 x1 x2 s11 s12 b0) (l28_0B x0 x1 x2 s11 s12 b0)).run = some (l28_0E (x0) (x1) (x2) (s11) (q.2.1) (q.2.2) q.1)) (x0 : Int) (x1 : Q0) (x2 : Int) (s11 : Int) (s12 : Int) (b0 : Q0) (q : Nat × Int × (Q0)) (h : l28_0 m (n + 1) x0 x1 x2 s11 s12 b0 = some q) : (turns (hds 28 7301) 0 7301 (cb16 m) (n + 1) (l28_0H x0 x1 x2 s11 s12 b0) (l28_0B x0 x1 x2 s11 s12 b0)).run = some (l28_0E (x0) (x1) (x2) (s11) (q.2.1) (q.2.2) q.1) := by
  rw [l28_0] at h
  refine ite_cases h (fun c0 h => ?_) (fun c0 h => ?_)
  · skip
    obtain ⟨c1, h⟩ := iY h
    obtain ⟨c2, h⟩ := iY h
    refine ite_cases h (fun c4 h => ?_) (fun c4 h => ?_)
    · skip
      obtain ⟨c6, h⟩ := iY h
      have ih := ih _ _ _ _ _ _ q h
      have ht : (turn (hds 28 7301) 0 7301 (cb16 m) (l28_0H x0 x1 x2 s11 s12 b0) (l28_0B x0 x1 x2 s11 s12 b0)).run = some (.normal, ((.d (.int .i64 x0)) :: .top :: (.d (.int .i64 x2)) :: .top :: .top :: .top :: .top :: (.sr 0 0 ((List.length b0) + 1) 2 none) :: .top :: .top :: (.d (.sl (.pair (.sl (.pair .str .str)) (.int .i64)) x1)) :: (.d (.int .i64 s11)) :: (.d (.int .i64 (IntKind.wrap .i64 (s12 + (1))))) :: tp15 []), [(.arr (.pair (.sl (.pair .str .str)) (.int .i64)) (b0 ++ [(List.getD x1 (Int.toNat s12) (([] : Q2), 0))]) true)]) := M.run_of_path _ [tT, tT, tT, tT, tT, tT, tT, tT] _ _ (by kernel_rfl) (all_t c0 (all_t c1 (all_t c2 (all_t rfl (all_t c4 (all_t rfl (all_t c6 (all_t (show decide ((List.length b0) = (List.length b0)) = true from decide_eq_true rfl) all_nil))))))))
      refine turns_step ht (turns_eq ?_ ?_ ih)
      · unfold l28_0H
        first | (simp; done) | (simp [Nat.add_assoc]; done) | (simp; omega)
      · unfold l28_0B
        simp
    · skip
      have ih := ih _ _ _ _ _ _ q h
      refine turns_step ?_ ih
      exact M.run_of_path _ [tT, tT, tT, tT, fF] _ _ (by kernel_rfl) (all_t c0 (all_t c1 (all_t c2 (all_t rfl (all_f c4 all_nil)))))
  · skip
    cases h
    refine turns_last (by simp) ?_
    exact M.run_of_path _ [fF] _ _ (by kernel_rfl) (all_f c0 all_nil)
theorem l28_0_ok (m : Nat) : ∀ (n : Nat) (x0 : Int) (x1 : Q0) (x2 : Int) (s11 : Int) (s12 : Int) (b0 : Q0) (q : Nat × Int × (Q0)), l28_0 m n x0 x1 x2 s11 s12 b0 = some q → (turns (hds 28 7301) 0 7301 (cb16 m) n (l28_0H x0 x1 x2 s11 s12 b0) (l28_0B x0 x1 x2 s11 s12 b0)).run = some (l28_0E (x0) (x1) (x2) (s11) (q.2.1) (q.2.2) q.1)
  | 0, x0, x1, x2, s11, s12, b0, q, h => by cases h
  | n + 1, x0, x1, x2, s11, s12, b0, q, h => l28_0_step m n (l28_0_ok m n) x0 x1 x2 s11 s12 b0 q h

def p28 (m : Nat) (x0 : Int) (x1 : Q0) (x2 : Int) : Option ((Q0)) :=
  if (Option.isSome (l28_0 m (m + 24) x0 x1 x2 ((((List.length x1) : Nat) : Int)) 0 (([] : Q0)))) = true then
  if sortPre (List.take (List.length (l28_0R m (m + 24) x0 x1 x2 ((((List.length x1) : Nat) : Int)) 0 (([] : Q0))).2.2) (List.drop 0 (l28_0R m (m + 24) x0 x1 x2 ((((List.length x1) : Nat) : Int)) 0 (([] : Q0))).2.2)) = true then
  some ((sortG (List.take (List.length (l28_0R m (m + 24) x0 x1 x2 ((((List.length x1) : Nat) : Int)) 0 (([] : Q0))).2.2) (List.drop 0 (l28_0R m (m + 24) x0 x1 x2 ((((List.length x1) : Nat) : Int)) 0 (([] : Q0))).2.2))))
  else none
  else none
theorem p28_ok (m : Nat) (x0 : Int) (x1 : Q0) (x2 : Int) (q : (Q0)) (h : p28 m x0 x1 x2 = some q) : ∃ r B1, (evCall F S28 (m + 25) 28 [(.d (.int .i64 x0)), (.d (.sl (.pair (.sl (.pair .str .str)) (.int .i64)) x1)), (.d (.int .i64 x2))] []).run = some (r, B1) ∧ 0 ≤ B1.length ∧ wkR B1 [] r (.d (.sl (.pair (.sl (.pair .str .str)) (.int .i64)) q)) ∧ wkBs B1 [] 0 [] := by
  unfold p28 at h
  obtain ⟨c0, h⟩ := iY h
  obtain ⟨c2, h⟩ := iY h
  cases h
  refine ⟨(.d (.sl (.pair (.sl (.pair .str .str)) (.int .i64)) (sortG (List.take (List.length (l28_0R m (m + 24) x0 x1 x2 ((((List.length x1) : Nat) : Int)) 0 (([] : Q0))).2.2) (List.drop 0 (l28_0R m (m + 24) x0 x1 x2 ((((List.length x1) : Nat) : Int)) 0 (([] : Q0))).2.2))))), [], runT_ok (LS := (fun k => if k = 7301 then some (l28_0E x0 x1 x2 (((((List.length x1) : Nat) : Int))) ((l28_0R m (m + 24) x0 x1 x2 ((((List.length x1) : Nat) : Int)) 0 (([] : Q0))).2.1) ((l28_0R m (m + 24) x0 x1 x2 ((((List.length x1) : Nat) : Int)) 0 (([] : Q0))).2.2) 0) else none)) (fn := fn28) (vis := [(7301, l28_0H x0 x1 x2 ((((List.length x1) : Nat) : Int)) 0 (([] : Q0)), l28_0B x0 x1 x2 ((((List.length x1) : Nat) : Int)) 0 (([] : Q0)))]) (by kernel_rfl) rfl (by kernel_rfl) (M.run_of_path _ [tT, tT] _ _ (by kernel_rfl) (all_t (show decide ((0 + (List.length (l28_0R m (m + 24) x0 x1 x2 ((((List.length x1) : Nat) : Int)) 0 (([] : Q0))).2.2)) ≤ (List.length (l28_0R m (m + 24) x0 x1 x2 ((((List.length x1) : Nat) : Int)) 0 (([] : Q0))).2.2)) = true from decide_eq_true (Nat.le_of_eq (Nat.zero_add _))) (all_t c2 all_nil))) ?_, by simp, (wkR.one (wkV.one (wk1.eq rfl))), trivial⟩
  intro p hp p2 hq
  rcases List.mem_cons.1 hp with rfl | hp
  · skip
    have h3 := l28_0_ok m (m + 24) x0 x1 x2 ((((List.length x1) : Nat) : Int)) 0 (([] : Q0)) _ (some_getD (d := l28_0D) c0)
    exact Eq.trans (Eq.mp (by kernel_rfl) h3) hq
  cases hp

def aboveG (kind : Int) (a : VL) (v : Int) : VL := sortG (a.filter fun p => cmpG kind p.2 v)
theorem above_loop (m : Nat) (kind : Int) (a : VL) (v : Int) (hl : a.length < 20) : ∀ (n k : Nat) (out : VL), k ≤ a.length → a.length - k < n → out.length ≤ k →
    ∃ j, l28_0 m n kind a v ((a.length : Nat) : Int) (k : Nat) out = some (0, j, out ++ (a.drop k).filter fun p => cmpG kind p.2 v)
  | 0, k, _, _, h, _ => by omega
  | n + 1, k, out, h1, h2, h3 => by
    rw [l28_0]
    by_cases hk : k < a.length
    · have e1 : decide (((k : Nat) : Int) < (((List.length a) : Nat) : Int)) = true := decide_eq_true (by omega)
      have e2 : decide ((0 : Int) ≤ ((k : Nat) : Int)) = true := decide_eq_true (by omega)
      have e4 : decide ((((List.length out) + 1) * 32) ≤ 70368744177664) = true := decide_eq_true (by omega)
      have e7 : IntKind.wrap .i64 (((k : Nat) : Int) + (1)) = ((k + 1 : Nat) : Int) := by rw [wrap_id (by omega) (by omega)]; rfl
      rw [drop_getD a k (([] : LB), 0) hk, show Int.toNat ((k : Nat) : Int) = k from rfl, e7, if_pos e1, if_pos e2, if_pos e1, if_pos e4, List.filter_cons]
      generalize a.getD k (([] : LB), 0) = q
      have ih := fun out' h => above_loop m kind a v hl n (k + 1) out' (by omega) (by omega) h
      by_cases hd : cmpG kind q.2 v = true
      · rw [if_pos hd, if_pos hd]
        obtain ⟨j, hj⟩ := ih (out ++ [q]) (by simp; omega)
        exact ⟨j, by rw [hj]; simp⟩
      · rw [if_neg hd, if_neg hd]
        exact ih out (by omega)
    · have e1 : decide (((k : Nat) : Int) < (((List.length a) : Nat) : Int)) = false := decide_eq_false (by omega)
      rw [e1, if_neg (by simp), List.drop_eq_nil_of_le (by omega)]
      exact ⟨((k : Nat) : Int), by simp⟩
theorem above28 (kind : Int) (a : VL) (v : Int) (ha : sortPre a = true) : ∃ m, p28 m kind a v = some (aboveG kind a v) := by
  refine ⟨a.length, ?_⟩
  have hl := (of_decide_eq_true ha).1
  unfold p28 aboveG
  obtain ⟨j, hj⟩ := above_loop a.length kind a v hl (a.length + 24) 0 [] (by omega) (by omega) (by simp)
  rw [Int.natCast_zero, List.drop_zero, List.nil_append] at hj
  unfold l28_0R
  rw [hj]
  have hs : sortPre (a.filter fun p => cmpG kind p.2 v) = true := sort_sub ha (by have := List.length_filter_le (fun p => cmpG kind p.2 v) a; omega) (fun p hp => (List.mem_filter.1 hp).1)
  simp only [Option.isSome_some, Option.getD_some, ↓reduceIte, List.drop_zero, List.take_length, hs]
def s28 : List AV → Boxes → M (AV × Boxes) := normS [.val (.int .i64), .val (.sl (.pair (.sl (.pair .str .str)) (.int .i64))), .val (.int .i64)] [] fun xs B => match xs, B with
  | [(.d (.int .i64 c1)), (.d (.sl (.pair (.sl (.pair .str .str)) (.int .i64)) c2)), (.d (.int .i64 c3))], [] => .chk (sortPre c2) (.ret ((.d (.sl (.pair (.sl (.pair .str .str)) (.int .i64)) (aboveG c1 c2 c3))), []))
  | _, _ => .fail
theorem s28_at : CallAt Tryd.prog 28 s28 := by
  refine CallAt.norm (CallAt.weakE (g := fun n => evCall F S28 n 28) (fun n => evCall_atH mixed kinds hds S28 S28_ok n 28) fun xs B r' B' hr => ?_) _ _
  split at hr
  · rename_i c1 c2 c3
    obtain ⟨hp, hr⟩ := (M.run_chk _ _ _).1 hr
    simp only [M.run, Option.some.injEq, Prod.mk.injEq] at hr
    obtain ⟨rfl, rfl⟩ := hr
    obtain ⟨m, hm⟩ := above28 c1 c2 c3 hp
    obtain ⟨r, B1, h1, h2, h3, h4⟩ := p28_ok m c1 c2 c3 _ hm
    exact ⟨m + 25, r, B1, h1, by simp, h2, h3, h4⟩
  · simp [M.run] at hr
noncomputable def S29 : FuncId → Option (List AV → Boxes → M (AV × Boxes)) := fun f => if f = 28 then some s28 else S28 f
theorem S29_ok : ∀ f s, S29 f = some s → CallAt Tryd.prog f s := by
  intro f s h
  unfold S29 at h
  split at h
  · rename_i e; subst e; cases h; exact s28_at
  · exact S28_ok f s h

end Go.Proofs.YtahdcmicifokgaaDoor.Dec
namespace Go.Proofs.YtahdcmicifokgaaDoor.Dec
open Go.Ev
set_option linter.unusedVariables false
set_option linter.unusedSimpArgs false
set_option maxRecDepth 100000
set_option maxHeartbeats 20000000
noncomputable def fn27 : AFn := (F 27).getD ⟨0, [], .bad, false, false, noHd⟩
noncomputable def body27 : AC := fn27.body
def l27_0 (m : Nat) : Nat → Int → Q0 → Q0 → Int → Int → Q0 → Option (Nat × Int × (Q0))
  | 0, _, _, _, _, _, _ => none
  | n + 1, x0, x1, x2, s21, s22, b0 => if decide (s22 < s21) = true then
      if decide (0 ≤ s22) = true then
      if decide (s22 < (((List.length x1) : Nat) : Int)) = true then
      if decide (List.length (List.getD x1 (Int.toNat s22) (([] : Q2), 0)).1 ≤ 1000000) = true then
      if findPre x2 (pkeyG (List.getD x1 (Int.toNat s22) (([] : Q2), 0))) = true then
      if (x0 == (15)) = true then
        if decide ((((List.length b0) + 1) * 32) ≤ 70368744177664) = true then
        l27_0 m n x0 x1 x2 s21 ((IntKind.wrap .i64 (s22 + (1)))) ((b0 ++ [(List.getD x1 (Int.toNat s22) (([] : Q2), 0))]))
        else none
      else
        if (decide ((findG x2 (pkeyG (List.getD x1 (Int.toNat s22) (([] : Q2), 0)))) ≥ 0) == (x0 == (14))) = true then
          if decide ((((List.length b0) + 1) * 32) ≤ 70368744177664) = true then
          l27_0 m n x0 x1 x2 s21 ((IntKind.wrap .i64 (s22 + (1)))) ((b0 ++ [(List.getD x1 (Int.toNat s22) (([] : Q2), 0))]))
          else none
        else
          l27_0 m n x0 x1 x2 s21 ((IntKind.wrap .i64 (s22 + (1)))) b0
      else none
      else none
      else none
      else none
    else
      some (0, s22, b0)
def l27_0D : Nat × Int × (Q0) := (0, 0, [])
@[reducible] def l27_0R (m n : Nat) (x0 : Int) (x1 : Q0) (x2 : Q0) (s21 : Int) (s22 : Int) (b0 : Q0) : Nat × Int × (Q0) := Option.getD (l27_0 m n x0 x1 x2 s21 s22 b0) l27_0D
def l27_0H (x0 : Int) (x1 : Q0) (x2 : Q0) (s21 : Int) (s22 : Int) (b0 : Q0) : Env := ((.d (.int .i64 x0)) :: (.d (.sl (.pair (.sl (.pair .str .str)) (.int .i64)) x1)) :: (.d (.sl (.pair (.sl (.pair .str .str)) (.int .i64)) x2)) :: .top :: .top :: .top :: .top :: .top :: (.sr 0 0 (List.length b0) 2 none) :: tp11 ((.d (.sl (.pair (.sl (.pair .str .str)) (.int .i64)) x1)) :: (.d (.int .i64 s21)) :: (.d (.int .i64 s22)) :: tp43 []))
def l27_0B (x0 : Int) (x1 : Q0) (x2 : Q0) (s21 : Int) (s22 : Int) (b0 : Q0) : Boxes := [(.arr (.pair (.sl (.pair .str .str)) (.int .i64)) b0 true)]
def l27_0E (x0 : Int) (x1 : Q0) (x2 : Q0) (s21 : Int) (s22 : Int) (b0 : Q0) : Nat → AEx × Env × Boxes
  | _ => (.exit 0, ((.d (.int .i64 x0)) :: (.d (.sl (.pair (.sl (.pair .str .str)) (.int .i64)) x1)) :: (.d (.sl (.pair (.sl (.pair .str .str)) (.int .i64)) x2)) :: .top :: .top :: .top :: .top :: .top :: (.sr 0 0 (List.length b0) 2 none) :: tp11 ((.d (.sl (.pair (.sl (.pair .str .str)) (.int .i64)) x1)) :: (.d (.int .i64 s21)) :: (.d (.int .i64 s22)) :: (.d (.bool (decide (s22 < s21)))) :: tp42 [])), [(.arr (.pair (.sl (.pair .str .str)) (.int .i64)) b0 true)])
noncomputable def lbl27_0 : AC := loopBody 7340295 body27
@[reducible] noncomputable def cb17 (m : Nat) := (evC byref (evCall F S29 (m + 24)) (m + 24) 0 (hds 27) lbl27_0)


theorem l27_0_step (m n : Nat) (ih : ∀ (x0 : Int) (x1 : Q0) (x2 : Q0) (s21 : Int) (s22 : Int) (b0 : Q0) (q : Nat × Int × (Q0)), l27_0 m n x0 x1 x2 s21 s22 b0 = some q → (turns (hds 27 7340295) 0 7340295 (cb17 m) n (l27_0H x0 x1 x2 s21 s22 b0) (l27_0B x0 x1 x2 s21 s22 b0)).run = some (l27_0E (x0) (x1) (x2) (s21) (q.2.1) (q.2.2) q.1)) (x0 : Int) (x1 : Q0) (x2 : Q0) (s21 : Int) (s22 : Int) (b0 : Q0) (q : Nat × Int × (Q0)) (h : l27_0 m (n + 1) x0 x1 x2 s21 s22 b0 = some q) : (turns (hds 27 7340295) 0 7340295 (cb17 m) (n + 1) (l27_0H x0 x1 x2 s21 s22 b0) (l27_0B x0 x1 x2 s21 s22 b0)).run = some (l27_0E (x0) (x1) (x2) (s21) (q.2.1) (q.2.2) q.1) := by
  rw [l27_0] at h
  refine ite_cases h (fun c0 h => ?_) (fun c0 h => ?_)
  · skip
    obtain ⟨c1, h⟩ := iY h
    obtain ⟨c2, h⟩ := iY h
    obtain ⟨c3, h⟩ := iY h
    obtain ⟨c4, h⟩ := iY h
    refine ite_cases h (fun c5 h => ?_) (fun c5 h => ?_)
    · skip
      obtain ⟨c12, h⟩ := iY h
      have ih := ih _ _ _ _ _ _ q h
      have ht : (turn (hds 27 7340295) 0 7340295 (cb17 m) (l27_0H x0 x1 x2 s21 s22 b0) (l27_0B x0 x1 x2 s21 s22 b0)).run = some (.normal, ((.d (.int .i64 x0)) :: (.d (.sl (.pair (.sl (.pair .str .str)) (.int .i64)) x1)) :: (.d (.sl (.pair (.sl (.pair .str .str)) (.int .i64)) x2)) :: .top :: .top :: .top :: .top :: .top :: (.sr 0 0 ((List.length b0) + 1) 2 none) :: tp11 ((.d (.sl (.pair (.sl (.pair .str .str)) (.int .i64)) x1)) :: (.d (.int .i64 s21)) :: (.d (.int .i64 (IntKind.wrap .i64 (s22 + (1))))) :: tp43 [])), [(.arr (.pair (.sl (.pair .str .str)) (.int .i64)) (b0 ++ [(List.getD x1 (Int.toNat s22) (([] : Q2), 0))]) true)]) := M.run_of_path _ [tT, tT, tT, tT, tT, tT, tT, tT, tT, tT, tT, tT, tT, tT] _ _ (by kernel_rfl) (all_t c0 (all_t c1 (all_t c2 (all_t c3 (all_t c4 (all_t c5 (all_t c5 (all_t c5 (all_t c5 (all_t c5 (all_t rfl (all_t rfl (all_t c12 (all_t (show decide ((List.length b0) = (List.length b0)) = true from decide_eq_true rfl) all_nil))))))))))))))
      refine turns_step ht (turns_eq ?_ ?_ ih)
      · unfold l27_0H
        first | (simp; done) | (simp [Nat.add_assoc]; done) | (simp; omega)
      · unfold l27_0B
        simp
    · skip
      refine ite_cases h (fun c10 h => ?_) (fun c10 h => ?_)
      · skip
        obtain ⟨c12, h⟩ := iY h
        have ih := ih _ _ _ _ _ _ q h
        have ht : (turn (hds 27 7340295) 0 7340295 (cb17 m) (l27_0H x0 x1 x2 s21 s22 b0) (l27_0B x0 x1 x2 s21 s22 b0)).run = some (.normal, ((.d (.int .i64 x0)) :: (.d (.sl (.pair (.sl (.pair .str .str)) (.int .i64)) x1)) :: (.d (.sl (.pair (.sl (.pair .str .str)) (.int .i64)) x2)) :: .top :: .top :: .top :: .top :: .top :: (.sr 0 0 ((List.length b0) + 1) 2 none) :: tp11 ((.d (.sl (.pair (.sl (.pair .str .str)) (.int .i64)) x1)) :: (.d (.int .i64 s21)) :: (.d (.int .i64 (IntKind.wrap .i64 (s22 + (1))))) :: tp43 [])), [(.arr (.pair (.sl (.pair .str .str)) (.int .i64)) (b0 ++ [(List.getD x1 (Int.toNat s22) (([] : Q2), 0))]) true)]) := M.run_of_path _ [tT, tT, tT, tT, tT, fF, fF, fF, fF, fF, tT, tT, tT, tT] _ _ (by kernel_rfl) (all_t c0 (all_t c1 (all_t c2 (all_t c3 (all_t c4 (all_f c5 (all_f c5 (all_f c5 (all_f c5 (all_f c5 (all_t c10 (all_t rfl (all_t c12 (all_t (show decide ((List.length b0) = (List.length b0)) = true from decide_eq_true rfl) all_nil))))))))))))))
        refine turns_step ht (turns_eq ?_ ?_ ih)
        · unfold l27_0H
          first | (simp; done) | (simp [Nat.add_assoc]; done) | (simp; omega)
        · unfold l27_0B
          simp
      · skip
        have ih := ih _ _ _ _ _ _ q h
        refine turns_step ?_ ih
        exact M.run_of_path _ [tT, tT, tT, tT, tT, fF, fF, fF, fF, fF, fF] _ _ (by kernel_rfl) (all_t c0 (all_t c1 (all_t c2 (all_t c3 (all_t c4 (all_f c5 (all_f c5 (all_f c5 (all_f c5 (all_f c5 (all_f c10 all_nil)))))))))))
  · skip
    cases h
    refine turns_last (by simp) ?_
    exact M.run_of_path _ [fF] _ _ (by kernel_rfl) (all_f c0 all_nil)
theorem l27_0_ok (m : Nat) : ∀ (n : Nat) (x0 : Int) (x1 : Q0) (x2 : Q0) (s21 : Int) (s22 : Int) (b0 : Q0) (q : Nat × Int × (Q0)), l27_0 m n x0 x1 x2 s21 s22 b0 = some q → (turns (hds 27 7340295) 0 7340295 (cb17 m) n (l27_0H x0 x1 x2 s21 s22 b0) (l27_0B x0 x1 x2 s21 s22 b0)).run = some (l27_0E (x0) (x1) (x2) (s21) (q.2.1) (q.2.2) q.1)
  | 0, x0, x1, x2, s21, s22, b0, q, h => by cases h
  | n + 1, x0, x1, x2, s21, s22, b0, q, h => l27_0_step m n (l27_0_ok m n) x0 x1 x2 s21 s22 b0 q h

def l27_1 (m : Nat) : Nat → Int → Q0 → Q0 → Int → Int → Q0 → Option (Nat × Int × (Q0))
  | 0, _, _, _, _, _, _ => none
  | n + 1, x0, x1, x2, s45, s46, b0 => if decide (s46 < s45) = true then
      if decide (0 ≤ s46) = true then
      if decide (s46 < (((List.length x2) : Nat) : Int)) = true then
      if (x0 == (15)) = true then
        if decide (List.length (List.getD x2 (Int.toNat s46) (([] : Q2), 0)).1 ≤ 1000000) = true then
        if findPre x1 (pkeyG (List.getD x2 (Int.toNat s46) (([] : Q2), 0))) = true then
        if decide ((findG x1 (pkeyG (List.getD x2 (Int.toNat s46) (([] : Q2), 0)))) < 0) = true then
          if decide ((((List.length b0) + 1) * 32) ≤ 70368744177664) = true then
          l27_1 m n x0 x1 x2 s45 ((IntKind.wrap .i64 (s46 + (1)))) ((b0 ++ [(List.getD x2 (Int.toNat s46) (([] : Q2), 0))]))
          else none
        else
          l27_1 m n x0 x1 x2 s45 ((IntKind.wrap .i64 (s46 + (1)))) b0
        else none
        else none
      else
        l27_1 m n x0 x1 x2 s45 ((IntKind.wrap .i64 (s46 + (1)))) b0
      else none
      else none
    else
      some (0, s46, b0)
def l27_1D : Nat × Int × (Q0) := (0, 0, [])
@[reducible] def l27_1R (m n : Nat) (x0 : Int) (x1 : Q0) (x2 : Q0) (s45 : Int) (s46 : Int) (b0 : Q0) : Nat × Int × (Q0) := Option.getD (l27_1 m n x0 x1 x2 s45 s46 b0) l27_1D
def l27_1H (x0 : Int) (x1 : Q0) (x2 : Q0) (s45 : Int) (s46 : Int) (b0 : Q0) : Env := ((.d (.int .i64 x0)) :: (.d (.sl (.pair (.sl (.pair .str .str)) (.int .i64)) x1)) :: .top :: .top :: .top :: .top :: .top :: .top :: (.sr 0 0 (List.length b0) 2 none) :: tp35 ((.d (.sl (.pair (.sl (.pair .str .str)) (.int .i64)) x2)) :: (.d (.int .i64 s45)) :: (.d (.int .i64 s46)) :: tp19 []))
def l27_1B (x0 : Int) (x1 : Q0) (x2 : Q0) (s45 : Int) (s46 : Int) (b0 : Q0) : Boxes := [(.arr (.pair (.sl (.pair .str .str)) (.int .i64)) b0 true)]
def l27_1E (x0 : Int) (x1 : Q0) (x2 : Q0) (s45 : Int) (s46 : Int) (b0 : Q0) : Nat → AEx × Env × Boxes
  | _ => (.exit 2, ((.d (.int .i64 x0)) :: (.d (.sl (.pair (.sl (.pair .str .str)) (.int .i64)) x1)) :: .top :: .top :: .top :: .top :: .top :: .top :: (.sr 0 0 (List.length b0) 2 none) :: tp35 ((.d (.sl (.pair (.sl (.pair .str .str)) (.int .i64)) x2)) :: (.d (.int .i64 s45)) :: (.d (.int .i64 s46)) :: (.d (.bool (decide (s46 < s45)))) :: tp18 [])), [(.arr (.pair (.sl (.pair .str .str)) (.int .i64)) b0 true)])
noncomputable def lbl27_1 : AC := loopBody 123145302311171 body27
@[reducible] noncomputable def cb18 (m : Nat) := (evC byref (evCall F S29 (m + 24)) (m + 24) 0 (hds 27) lbl27_1)


theorem l27_1_step (m n : Nat) (ih : ∀ (x0 : Int) (x1 : Q0) (x2 : Q0) (s45 : Int) (s46 : Int) (b0 : Q0) (q : Nat × Int × (Q0)), l27_1 m n x0 x1 x2 s45 s46 b0 = some q → (turns (hds 27 123145302311171) 0 123145302311171 (cb18 m) n (l27_1H x0 x1 x2 s45 s46 b0) (l27_1B x0 x1 x2 s45 s46 b0)).run = some (l27_1E (x0) (x1) (x2) (s45) (q.2.1) (q.2.2) q.1)) (x0 : Int) (x1 : Q0) (x2 : Q0) (s45 : Int) (s46 : Int) (b0 : Q0) (q : Nat × Int × (Q0)) (h : l27_1 m (n + 1) x0 x1 x2 s45 s46 b0 = some q) : (turns (hds 27 123145302311171) 0 123145302311171 (cb18 m) (n + 1) (l27_1H x0 x1 x2 s45 s46 b0) (l27_1B x0 x1 x2 s45 s46 b0)).run = some (l27_1E (x0) (x1) (x2) (s45) (q.2.1) (q.2.2) q.1) := by
  rw [l27_1] at h
  refine ite_cases h (fun c0 h => ?_) (fun c0 h => ?_)
  · skip
    obtain ⟨c1, h⟩ := iY h
    obtain ⟨c2, h⟩ := iY h
    refine ite_cases h (fun c3 h => ?_) (fun c3 h => ?_)
    · skip
      obtain ⟨c6, h⟩ := iY h
      obtain ⟨c8, h⟩ := iY h
      refine ite_cases h (fun c11 h => ?_) (fun c11 h => ?_)
      · skip
        obtain ⟨c13, h⟩ := iY h
        have ih := ih _ _ _ _ _ _ q h
        have ht : (turn (hds 27 123145302311171) 0 123145302311171 (cb18 m) (l27_1H x0 x1 x2 s45 s46 b0) (l27_1B x0 x1 x2 s45 s46 b0)).run = some (.normal, ((.d (.int .i64 x0)) :: (.d (.sl (.pair (.sl (.pair .str .str)) (.int .i64)) x1)) :: .top :: .top :: .top :: .top :: .top :: .top :: (.sr 0 0 ((List.length b0) + 1) 2 none) :: tp35 ((.d (.sl (.pair (.sl (.pair .str .str)) (.int .i64)) x2)) :: (.d (.int .i64 s45)) :: (.d (.int .i64 (IntKind.wrap .i64 (s46 + (1))))) :: tp19 [])), [(.arr (.pair (.sl (.pair .str .str)) (.int .i64)) (b0 ++ [(List.getD x2 (Int.toNat s46) (([] : Q2), 0))]) true)]) := M.run_of_path _ [tT, tT, tT, tT, tT, tT, tT, tT, tT, tT, tT, tT, tT, tT, tT] _ _ (by kernel_rfl) (all_t c0 (all_t c1 (all_t c2 (all_t c3 (all_t c3 (all_t c3 (all_t c6 (all_t c3 (all_t c8 (all_t c3 (all_t c3 (all_t c11 (all_t rfl (all_t c13 (all_t (show decide ((List.length b0) = (List.length b0)) = true from decide_eq_true rfl) all_nil)))))))))))))))
        refine turns_step ht (turns_eq ?_ ?_ ih)
        · unfold l27_1H
          first | (simp; done) | (simp [Nat.add_assoc]; done) | (simp; omega)
        · unfold l27_1B
          simp
      · skip
        have ih := ih _ _ _ _ _ _ q h
        refine turns_step ?_ ih
        exact M.run_of_path _ [tT, tT, tT, tT, tT, tT, tT, tT, tT, tT, tT, fF] _ _ (by kernel_rfl) (all_t c0 (all_t c1 (all_t c2 (all_t c3 (all_t c3 (all_t c3 (all_t c6 (all_t c3 (all_t c8 (all_t c3 (all_t c3 (all_f c11 all_nil))))))))))))
    · skip
      have ih := ih _ _ _ _ _ _ q h
      refine turns_step ?_ ih
      exact M.run_of_path _ [tT, tT, tT, fF, fF, fF, fF, fF, fF, fF] _ _ (by kernel_rfl) (all_t c0 (all_t c1 (all_t c2 (all_f c3 (all_f c3 (all_f c3 (all_f c3 (all_f c3 (all_f c3 (all_f Bool.false_ne_true all_nil))))))))))
  · skip
    cases h
    refine turns_last (by simp) ?_
    exact M.run_of_path _ [fF] _ _ (by kernel_rfl) (all_f c0 all_nil)
theorem l27_1_ok (m : Nat) : ∀ (n : Nat) (x0 : Int) (x1 : Q0) (x2 : Q0) (s45 : Int) (s46 : Int) (b0 : Q0) (q : Nat × Int × (Q0)), l27_1 m n x0 x1 x2 s45 s46 b0 = some q → (turns (hds 27 123145302311171) 0 123145302311171 (cb18 m) n (l27_1H x0 x1 x2 s45 s46 b0) (l27_1B x0 x1 x2 s45 s46 b0)).run = some (l27_1E (x0) (x1) (x2) (s45) (q.2.1) (q.2.2) q.1)
  | 0, x0, x1, x2, s45, s46, b0, q, h => by cases h
  | n + 1, x0, x1, x2, s45, s46, b0, q, h => l27_1_step m n (l27_1_ok m n) x0 x1 x2 s45 s46 b0 q h

def p27 (m : Nat) (x0 : Int) (x1 : Q0) (x2 : Q0) : Option ((Q0) × Int) :=
  if vPre x1 = true then
  if (twiceG x1) = true then
    some (([] : Q0), (5))
  else
    if vPre x2 = true then
    if (twiceG x2) = true then
      some (([] : Q0), (5))
    else
      if (Option.isSome (l27_0 m (m + 24) x0 x1 x2 ((((List.length x1) : Nat) : Int)) 0 (([] : Q0)))) = true then
      if (Option.isSome (l27_1 m (m + 24) x0 x1 x2 ((((List.length x2) : Nat) : Int)) 0 ((l27_0R m (m + 24) x0 x1 x2 ((((List.length x1) : Nat) : Int)) 0 (([] : Q0))).2.2))) = true then
      if sortPre (List.take (List.length (l27_1R m (m + 24) x0 x1 x2 ((((List.length x2) : Nat) : Int)) 0 ((l27_0R m (m + 24) x0 x1 x2 ((((List.length x1) : Nat) : Int)) 0 (([] : Q0))).2.2)).2.2) (List.drop 0 (l27_1R m (m + 24) x0 x1 x2 ((((List.length x2) : Nat) : Int)) 0 ((l27_0R m (m + 24) x0 x1 x2 ((((List.length x1) : Nat) : Int)) 0 (([] : Q0))).2.2)).2.2)) = true then
      some ((sortG (List.take (List.length (l27_1R m (m + 24) x0 x1 x2 ((((List.length x2) : Nat) : Int)) 0 ((l27_0R m (m + 24) x0 x1 x2 ((((List.length x1) : Nat) : Int)) 0 (([] : Q0))).2.2)).2.2) (List.drop 0 (l27_1R m (m + 24) x0 x1 x2 ((((List.length x2) : Nat) : Int)) 0 ((l27_0R m (m + 24) x0 x1 x2 ((((List.length x1) : Nat) : Int)) 0 (([] : Q0))).2.2)).2.2))), (0))
      else none
      else none
      else none
    else none
  else none
theorem p27_ok (m : Nat) (x0 : Int) (x1 : Q0) (x2 : Q0) (q : (Q0) × Int) (h : p27 m x0 x1 x2 = some q) : ∃ r B1, (evCall F S29 (m + 25) 27 [(.d (.int .i64 x0)), (.d (.sl (.pair (.sl (.pair .str .str)) (.int .i64)) x1)), (.d (.sl (.pair (.sl (.pair .str .str)) (.int .i64)) x2))] []).run = some (r, B1) ∧ 0 ≤ B1.length ∧ wkR B1 [] r (.tup [(.d (.sl (.pair (.sl (.pair .str .str)) (.int .i64)) q.1)), (.d (.int .i64 q.2))]) ∧ wkBs B1 [] 0 [] := by
  unfold p27 at h
  obtain ⟨c0, h⟩ := iY h
  refine ite_cases h (fun c1 h => ?_) (fun c1 h => ?_)
  · skip
    cases h
    refine ⟨(.tup [(.d (.sl (.pair (.sl (.pair .str .str)) (.int .i64)) ([] : Q0))), (.d (.int .i64 (5)))]), [], runT_ok (LS := (fun k => none)) (fn := fn27) (vis := []) (by kernel_rfl) rfl (by kernel_rfl) (M.run_of_path _ [tT, tT, tT, tT, tT, tT] _ _ (by kernel_rfl) (all_t c0 (all_t c1 (all_t c1 (all_t c1 (all_t rfl (all_t rfl all_nil))))))) ?_, by simp, (wkR.tup (wkVs.cons (wkV.one (wk1.eq rfl)) (wkVs.cons (wkV.one (wk1.eq rfl)) wkVs.nil))), trivial⟩
    intro p hp; cases hp
  · skip
    obtain ⟨c3, h⟩ := iY h
    refine ite_cases h (fun c5 h => ?_) (fun c5 h => ?_)
    · skip
      cases h
      refine ⟨(.tup [(.d (.sl (.pair (.sl (.pair .str .str)) (.int .i64)) ([] : Q0))), (.d (.int .i64 (5)))]), [], runT_ok (LS := (fun k => none)) (fn := fn27) (vis := []) (by kernel_rfl) rfl (by kernel_rfl) (M.run_of_path _ [tT, fF, fF, tT, fF, tT, tT] _ _ (by kernel_rfl) (all_t c0 (all_f c1 (all_f c1 (all_t c3 (all_f c1 (all_t c5 (all_t rfl all_nil)))))))) ?_, by simp, (wkR.tup (wkVs.cons (wkV.one (wk1.eq rfl)) (wkVs.cons (wkV.one (wk1.eq rfl)) wkVs.nil))), trivial⟩
      intro p hp; cases hp
    · skip
      obtain ⟨c6, h⟩ := iY h
      obtain ⟨c7, h⟩ := iY h
      obtain ⟨c9, h⟩ := iY h
      cases h
      refine ⟨(.tup [(.d (.sl (.pair (.sl (.pair .str .str)) (.int .i64)) (sortG (List.take (List.length (l27_1R m (m + 24) x0 x1 x2 ((((List.length x2) : Nat) : Int)) 0 ((l27_0R m (m + 24) x0 x1 x2 ((((List.length x1) : Nat) : Int)) 0 (([] : Q0))).2.2)).2.2) (List.drop 0 (l27_1R m (m + 24) x0 x1 x2 ((((List.length x2) : Nat) : Int)) 0 ((l27_0R m (m + 24) x0 x1 x2 ((((List.length x1) : Nat) : Int)) 0 (([] : Q0))).2.2)).2.2))))), (.d (.int .i64 (0)))]), [], runT_ok (LS := (fun k => if k = 7340295 then some (l27_0E x0 x1 x2 (((((List.length x1) : Nat) : Int))) ((l27_0R m (m + 24) x0 x1 x2 ((((List.length x1) : Nat) : Int)) 0 (([] : Q0))).2.1) ((l27_0R m (m + 24) x0 x1 x2 ((((List.length x1) : Nat) : Int)) 0 (([] : Q0))).2.2) 0) else if k = 123145302311171 then some (l27_1E x0 x1 x2 (((((List.length x2) : Nat) : Int))) ((l27_1R m (m + 24) x0 x1 x2 ((((List.length x2) : Nat) : Int)) 0 ((l27_0R m (m + 24) x0 x1 x2 ((((List.length x1) : Nat) : Int)) 0 (([] : Q0))).2.2)).2.1) ((l27_1R m (m + 24) x0 x1 x2 ((((List.length x2) : Nat) : Int)) 0 ((l27_0R m (m + 24) x0 x1 x2 ((((List.length x1) : Nat) : Int)) 0 (([] : Q0))).2.2)).2.2) 0) else none)) (fn := fn27) (vis := [(7340295, l27_0H x0 x1 x2 ((((List.length x1) : Nat) : Int)) 0 (([] : Q0)), l27_0B x0 x1 x2 ((((List.length x1) : Nat) : Int)) 0 (([] : Q0))), (123145302311171, l27_1H x0 x1 x2 ((((List.length x2) : Nat) : Int)) 0 ((l27_0R m (m + 24) x0 x1 x2 ((((List.length x1) : Nat) : Int)) 0 (([] : Q0))).2.2), l27_1B x0 x1 x2 ((((List.length x2) : Nat) : Int)) 0 ((l27_0R m (m + 24) x0 x1 x2 ((((List.length x1) : Nat) : Int)) 0 (([] : Q0))).2.2))]) (by kernel_rfl) rfl (by kernel_rfl) (M.run_of_path _ [tT, fF, fF, tT, fF, fF, tT, tT] _ _ (by kernel_rfl) (all_t c0 (all_f c1 (all_f c1 (all_t c3 (all_f c1 (all_f c5 (all_t (show decide ((0 + (List.length (l27_1R m (m + 24) x0 x1 x2 ((((List.length x2) : Nat) : Int)) 0 ((l27_0R m (m + 24) x0 x1 x2 ((((List.length x1) : Nat) : Int)) 0 (([] : Q0))).2.2)).2.2)) ≤ (List.length (l27_1R m (m + 24) x0 x1 x2 ((((List.length x2) : Nat) : Int)) 0 ((l27_0R m (m + 24) x0 x1 x2 ((((List.length x1) : Nat) : Int)) 0 (([] : Q0))).2.2)).2.2)) = true from decide_eq_true (Nat.le_of_eq (Nat.zero_add _))) (all_t c9 all_nil))))))))) ?_, by simp, (wkR.tup (wkVs.cons (wkV.one (wk1.eq rfl)) (wkVs.cons (wkV.one (wk1.eq rfl)) wkVs.nil))), trivial⟩
      intro p hp p2 hq
      rcases List.mem_cons.1 hp with rfl | hp
      · skip
        have h3 := l27_0_ok m (m + 24) x0 x1 x2 ((((List.length x1) : Nat) : Int)) 0 (([] : Q0)) _ (some_getD (d := l27_0D) c6)
        exact Eq.trans (Eq.mp (by kernel_rfl) h3) hq
      rcases List.mem_cons.1 hp with rfl | hp
      · skip
        have h3 := l27_1_ok m (m + 24) x0 x1 x2 ((((List.length x2) : Nat) : Int)) 0 ((l27_0R m (m + 24) x0 x1 x2 ((((List.length x1) : Nat) : Int)) 0 (([] : Q0))).2.2) _ (some_getD (d := l27_1D) c7)
        exact Eq.trans (Eq.mp (by kernel_rfl) h3) hq
      cases hp

def lpG (kind : Int) (b : VL) (p : PT1) : Bool := kind == 15 || (hasK b (pkeyG p) == (kind == 14))
def lqG (kind : Int) (a : VL) (p : PT1) : Bool := kind == 15 && !hasK a (pkeyG p)
def logG (kind : Int) (a b : VL) : VL × Int := if twiceG a = true then ([], 5) else if twiceG b = true then ([], 5) else (sortG (a.filter (lpG kind b) ++ b.filter (lqG kind a)), 0)
theorem has_dec (b : VL) (k : LB) : decide (findG b k ≥ 0) = hasK b k := by
  cases h : hasK b k with
  | true => exact decide_eq_true ((find_has _ _).2 h)
  | false => exact decide_eq_false fun q => by rw [(find_has _ _).1 q] at h; cases h
theorem has_neg (b : VL) (k : LB) : decide (findG b k < 0) = !hasK b k := by
  rw [← has_dec]
  by_cases h : findG b k ≥ 0
  · rw [decide_eq_true h, decide_eq_false (by omega)]; rfl
  · rw [decide_eq_false h, decide_eq_true (by omega)]; rfl
theorem log0_loop (m : Nat) (kind : Int) (a b : VL) (ha : vPre a = true) (hb : vPre b = true) : ∀ (n k : Nat) (out : VL), k ≤ a.length → a.length - k < n → out.length ≤ k →
    ∃ j, l27_0 m n kind a b ((a.length : Nat) : Int) (k : Nat) out = some (0, j, out ++ (a.drop k).filter (lpG kind b))
  | 0, k, _, _, h, _ => by omega
  | n + 1, k, out, h1, h2, h3 => by
    rw [l27_0]
    obtain ⟨a1, a2⟩ := of_decide_eq_true ha
    by_cases hk : k < a.length
    · have e1 : decide (((k : Nat) : Int) < (((List.length a) : Nat) : Int)) = true := decide_eq_true (by omega)
      have e2 : decide ((0 : Int) ≤ ((k : Nat) : Int)) = true := decide_eq_true (by omega)
      have e4 : decide ((((List.length out) + 1) * 32) ≤ 70368744177664) = true := decide_eq_true (by omega)
      have e7 : IntKind.wrap .i64 (((k : Nat) : Int) + (1)) = ((k + 1 : Nat) : Int) := by rw [wrap_id (by omega) (by omega)]; rfl
      have hq := a2 _ (getD_mem a k (([] : LB), 0) hk)
      rw [drop_getD a k (([] : LB), 0) hk, show Int.toNat ((k : Nat) : Int) = k from rfl, e7, if_pos e1, if_pos e2, if_pos e1, if_pos e4, List.filter_cons]
      generalize a.getD k (([] : LB), 0) = q at hq
      have hp : findPre b (pkeyG q) = true := hb
      have ih := fun out' h => log0_loop m kind a b ha hb n (k + 1) out' (by omega) (by omega) h
      have hin : ∃ j, l27_0 m n kind a b ((a.length : Nat) : Int) ((k + 1 : Nat) : Int) (out ++ [q]) = some (0, j, out ++ q :: (a.drop (k + 1)).filter (lpG kind b)) := by
        obtain ⟨j, hj⟩ := ih (out ++ [q]) (by simp; omega)
        exact ⟨j, by rw [hj]; simp⟩
      have hlp : lpG kind b q = (kind == 15 || (hasK b (pkeyG q) == (kind == 14))) := rfl
      rw [if_pos (decide_eq_true hq), if_pos hp, has_dec, hlp]
      cases c1 : (kind == 15) with
      | true =>
        rw [if_pos rfl, Bool.true_or, if_pos rfl]
        exact hin
      | false =>
        rw [if_neg (by simp), Bool.false_or]
        by_cases c2 : (hasK b (pkeyG q) == (kind == 14)) = true
        · rw [if_pos c2, if_pos c2]
          exact hin
        · rw [if_neg c2, if_neg c2]
          exact ih out (by omega)
    · have e1 : decide (((k : Nat) : Int) < (((List.length a) : Nat) : Int)) = false := decide_eq_false (by omega)
      rw [e1, if_neg (by simp), List.drop_eq_nil_of_le (by omega)]
      exact ⟨((k : Nat) : Int), by simp⟩
theorem log1_loop (m : Nat) (kind : Int) (a b : VL) (ha : vPre a = true) (hb : vPre b = true) : ∀ (n k : Nat) (out : VL), k ≤ b.length → b.length - k < n → out.length ≤ a.length + k →
    ∃ j, l27_1 m n kind a b ((b.length : Nat) : Int) (k : Nat) out = some (0, j, out ++ (b.drop k).filter (lqG kind a))
  | 0, k, _, _, h, _ => by omega
  | n + 1, k, out, h1, h2, h3 => by
    rw [l27_1]
    obtain ⟨a1, _⟩ := of_decide_eq_true ha
    obtain ⟨b1, b2⟩ := of_decide_eq_true hb
    by_cases hk : k < b.length
    · have e1 : decide (((k : Nat) : Int) < (((List.length b) : Nat) : Int)) = true := decide_eq_true (by omega)
      have e2 : decide ((0 : Int) ≤ ((k : Nat) : Int)) = true := decide_eq_true (by omega)
      have e4 : decide ((((List.length out) + 1) * 32) ≤ 70368744177664) = true := decide_eq_true (by omega)
      have e7 : IntKind.wrap .i64 (((k : Nat) : Int) + (1)) = ((k + 1 : Nat) : Int) := by rw [wrap_id (by omega) (by omega)]; rfl
      have hq := b2 _ (getD_mem b k (([] : LB), 0) hk)
      rw [drop_getD b k (([] : LB), 0) hk, show Int.toNat ((k : Nat) : Int) = k from rfl, e7, if_pos e1, if_pos e2, if_pos e1, List.filter_cons]
      generalize b.getD k (([] : LB), 0) = q at hq
      have hp : findPre a (pkeyG q) = true := ha
      have ih := fun out' h => log1_loop m kind a b ha hb n (k + 1) out' (by omega) (by omega) h
      have hlq : lqG kind a q = (kind == 15 && !hasK a (pkeyG q)) := rfl
      rw [hlq]
      cases c1 : (kind == 15) with
      | true =>
        rw [if_pos rfl, Bool.true_and, if_pos (decide_eq_true hq), if_pos hp, has_neg]
        by_cases c2 : (!hasK a (pkeyG q)) = true
        · rw [if_pos c2, if_pos c2, if_pos e4]
          obtain ⟨j, hj⟩ := ih (out ++ [q]) (by simp; omega)
          exact ⟨j, by rw [hj]; simp⟩
        · rw [if_neg c2, if_neg c2]
          exact ih out (by omega)
      | false =>
        rw [if_neg (by simp), Bool.false_and, if_neg (by simp)]
        exact ih out (by omega)
    · have e1 : decide (((k : Nat) : Int) < (((List.length b) : Nat) : Int)) = false := decide_eq_false (by omega)
      rw [e1, if_neg (by simp), List.drop_eq_nil_of_le (by omega)]
      exact ⟨((k : Nat) : Int), by simp⟩
theorem log27 (kind : Int) (a b : VL) (h : twoPre a b = true) : ∃ m, p27 m kind a b = some (logG kind a b) := by
  obtain ⟨ha, hb, hl⟩ := two_of h
  refine ⟨a.length + b.length, ?_⟩
  unfold p27 logG
  rw [if_pos (sort_v ha), if_pos (sort_v hb)]
  by_cases t1 : twiceG a = true
  · rw [if_pos t1, if_pos t1]
  · rw [if_neg t1, if_neg t1]
    by_cases t2 : twiceG b = true
    · rw [if_pos t2, if_pos t2]
    · rw [if_neg t2, if_neg t2]
      have f1 := List.length_filter_le (lpG kind b) a
      have f2 := List.length_filter_le (lqG kind a) b
      obtain ⟨j, hj⟩ := log0_loop (a.length + b.length) kind a b (sort_v ha) (sort_v hb) (a.length + b.length + 24) 0 [] (by omega) (by omega) (by simp)
      rw [Int.natCast_zero, List.drop_zero, List.nil_append] at hj
      obtain ⟨j2, hj2⟩ := log1_loop (a.length + b.length) kind a b (sort_v ha) (sort_v hb) (a.length + b.length + 24) 0 (a.filter (lpG kind b)) (by omega) (by omega) (by omega)
      rw [Int.natCast_zero, List.drop_zero] at hj2
      unfold l27_1R l27_0R
      simp only [hj, hj2, Option.isSome_some, Option.getD_some, ↓reduceIte, List.drop_zero, List.take_length]
      obtain ⟨g1, g2⟩ := of_decide_eq_true ha
      obtain ⟨g3, g4⟩ := of_decide_eq_true hb
      have hs : sortPre (a.filter (lpG kind b) ++ b.filter (lqG kind a)) = true := decide_eq_true ⟨by rw [List.length_append]; omega, fun p hp => by
        rcases List.mem_append.1 hp with hp | hp
        · exact g2 p (List.mem_filter.1 hp).1
        · exact g4 p (List.mem_filter.1 hp).1⟩
      rw [if_pos hs]
def s27 : List AV → Boxes → M (AV × Boxes) := normS [.val (.int .i64), .val (.sl (.pair (.sl (.pair .str .str)) (.int .i64))), .val (.sl (.pair (.sl (.pair .str .str)) (.int .i64)))] [] fun xs B => match xs, B with
  | [(.d (.int .i64 c1)), (.d (.sl (.pair (.sl (.pair .str .str)) (.int .i64)) c2)), (.d (.sl (.pair (.sl (.pair .str .str)) (.int .i64)) c3))], [] => .chk (twoPre c2 c3) (.ret ((.tup [(.d (.sl (.pair (.sl (.pair .str .str)) (.int .i64)) (logG c1 c2 c3).1)), (.d (.int .i64 (logG c1 c2 c3).2))]), []))
  | _, _ => .fail
theorem s27_at : CallAt Tryd.prog 27 s27 := by
  refine CallAt.norm (CallAt.weakE (g := fun n => evCall F S29 n 27) (fun n => evCall_atH mixed kinds hds S29 S29_ok n 27) fun xs B r' B' hr => ?_) _ _
  split at hr
  · rename_i c1 c2 c3
    obtain ⟨hp, hr⟩ := (M.run_chk _ _ _).1 hr
    simp only [M.run, Option.some.injEq, Prod.mk.injEq] at hr
    obtain ⟨rfl, rfl⟩ := hr
    obtain ⟨m, hm⟩ := log27 c1 c2 c3 hp
    obtain ⟨r, B1, h1, h2, h3, h4⟩ := p27_ok m c1 c2 c3 _ hm
    exact ⟨m + 25, r, B1, h1, by simp, h2, h3, h4⟩
  · simp [M.run] at hr
noncomputable def S30 : FuncId → Option (List AV → Boxes → M (AV × Boxes)) := fun f => if f = 27 then some s27 else S29 f
theorem S30_ok : ∀ f s, S30 f = some s → CallAt Tryd.prog f s := by
  intro f s h
  unfold S30 at h
  split at h
  · rename_i e; subst e; cases h; exact s27_at
  · exact S29_ok f s h

noncomputable def fn16 : AFn := (F 16).getD ⟨0, [], .bad, false, false, noHd⟩
noncomputable def body16 : AC := fn16.body
def l16_0 (m : Nat) : Nat → Q2 → Q2 → Int → Option (Nat × Int)
  | 0, _, _, _ => none
  | n + 1, x0, x1, s5 => if decide (s5 < (((List.length x0) : Nat) : Int)) = true then
      if decide (0 ≤ s5) = true then
      if decide (s5 < (((List.length x1) : Nat) : Int)) = true then
      if (((List.getD x0 (Int.toNat s5) (([] : Q4), ([] : Q4))).1 == (List.getD x1 (Int.toNat s5) (([] : Q4), ([] : Q4))).1) && (((List.getD x0 (Int.toNat s5) (([] : Q4), ([] : Q4))).2 == (List.getD x1 (Int.toNat s5) (([] : Q4), ([] : Q4))).2) && true)) = true then
        l16_0 m n x0 x1 ((IntKind.wrap .i64 (s5 + (1))))
      else
        some (0, s5)
      else none
      else none
    else
      some (1, s5)
def l16_0D : Nat × Int := (0, 0)
@[reducible] def l16_0R (m n : Nat) (x0 : Q2) (x1 : Q2) (s5 : Int) : Nat × Int := Option.getD (l16_0 m n x0 x1 s5) l16_0D
def l16_0H (x0 : Q2) (x1 : Q2) (s5 : Int) : Env := ((.d (.sl (.pair .str .str) x0)) :: (.d (.sl (.pair .str .str) x1)) :: .top :: .top :: .top :: (.d (.int .i64 s5)) :: tp20 [])
def l16_0B (x0 : Q2) (x1 : Q2) (s5 : Int) : Boxes := []
def l16_0E (x0 : Q2) (x1 : Q2) (s5 : Int) : Nat → AEx × Env × Boxes
  | 0 => (.ret, [(.d (.sl (.pair .str .str) x0)), (.d (.sl (.pair .str .str) x1)), .top, .top, (.d (.bool false)), (.d (.int .i64 s5)), .top, .top, .top, .top, .top, (.d (.int .i64 s5)), (.d (.sl (.pair .str .str) x0)), (.d (.int .i64 (((List.length x0) : Nat) : Int))), (.d (.bool (decide (s5 < (((List.length x0) : Nat) : Int))))), .top, .top, (.d (.sl (.pair .str .str) x0)), (.d (.int .i64 s5)), (.cptr [(.str (List.getD x0 (Int.toNat s5) (([] : Q4), ([] : Q4))).1), (.str (List.getD x0 (Int.toNat s5) (([] : Q4), ([] : Q4))).2)] 0), (.agg [(.d (.str (List.getD x0 (Int.toNat s5) (([] : Q4), ([] : Q4))).1)), (.d (.str (List.getD x0 (Int.toNat s5) (([] : Q4), ([] : Q4))).2))]), (.d (.sl (.pair .str .str) x1)), (.d (.int .i64 s5)), (.cptr [(.str (List.getD x1 (Int.toNat s5) (([] : Q4), ([] : Q4))).1), (.str (List.getD x1 (Int.toNat s5) (([] : Q4), ([] : Q4))).2)] 0), (.agg [(.d (.str (List.getD x1 (Int.toNat s5) (([] : Q4), ([] : Q4))).1)), (.d (.str (List.getD x1 (Int.toNat s5) (([] : Q4), ([] : Q4))).2))]), (.d (.bool (!(((List.getD x0 (Int.toNat s5) (([] : Q4), ([] : Q4))).1 == (List.getD x1 (Int.toNat s5) (([] : Q4), ([] : Q4))).1) && (((List.getD x0 (Int.toNat s5) (([] : Q4), ([] : Q4))).2 == (List.getD x1 (Int.toNat s5) (([] : Q4), ([] : Q4))).2) && true)))))], [.dead, .dead, .dead, .dead, .dead, .dead, .dead, .dead, .dead, .dead, .dead, .dead, .dead, .dead, .dead, .dead, .dead, .dead, .dead, .dead, .dead, .dead, .dead, .dead, .dead, .dead, .dead, .dead, .dead, .dead, .dead, .dead, .dead, .dead, .dead, .dead])
  | _ => (.exit 0, ((.d (.sl (.pair .str .str) x0)) :: (.d (.sl (.pair .str .str) x1)) :: .top :: .top :: .top :: (.d (.int .i64 s5)) :: .top :: .top :: .top :: .top :: .top :: (.d (.int .i64 s5)) :: (.d (.sl (.pair .str .str) x0)) :: (.d (.int .i64 (((List.length x0) : Nat) : Int))) :: (.d (.bool (decide (s5 < (((List.length x0) : Nat) : Int))))) :: tp11 []), [])
noncomputable def lbl16_0 : AC := loopBody 35 body16
@[reducible] noncomputable def cb19 (m : Nat) := (evC byref (evCall F S30 (m + 24)) (m + 24) 0 (hds 16) lbl16_0)


theorem l16_0_step (m n : Nat) (ih : ∀ (x0 : Q2) (x1 : Q2) (s5 : Int) (q : Nat × Int), l16_0 m n x0 x1 s5 = some q → (turns (hds 16 35) 0 35 (cb19 m) n (l16_0H x0 x1 s5) (l16_0B x0 x1 s5)).run = some (l16_0E (x0) (x1) (q.2) q.1)) (x0 : Q2) (x1 : Q2) (s5 : Int) (q : Nat × Int) (h : l16_0 m (n + 1) x0 x1 s5 = some q) : (turns (hds 16 35) 0 35 (cb19 m) (n + 1) (l16_0H x0 x1 s5) (l16_0B x0 x1 s5)).run = some (l16_0E (x0) (x1) (q.2) q.1) := by
  rw [l16_0] at h
  refine ite_cases h (fun c0 h => ?_) (fun c0 h => ?_)
  · skip
    obtain ⟨c1, h⟩ := iY h
    obtain ⟨c4, h⟩ := iY h
    refine ite_cases h (fun c5 h => ?_) (fun c5 h => ?_)
    · skip
      have ih := ih _ _ _ q h
      refine turns_step ?_ ih
      exact M.run_of_path _ [tT, tT, tT, tT, tT, fF] _ _ (by kernel_rfl) (all_t c0 (all_t c1 (all_t c0 (all_t c1 (all_t c4 (all_nt c5 all_nil))))))
    · skip
      cases h
      refine turns_last (by simp) ?_
      exact M.run_of_path _ [tT, tT, tT, tT, tT, tT] _ _ (by kernel_rfl) (all_t c0 (all_t c1 (all_t c0 (all_t c1 (all_t c4 (all_nf c5 all_nil))))))
  · skip
    cases h
    refine turns_last (by simp) ?_
    exact M.run_of_path _ [fF] _ _ (by kernel_rfl) (all_f c0 all_nil)
theorem l16_0_ok (m : Nat) : ∀ (n : Nat) (x0 : Q2) (x1 : Q2) (s5 : Int) (q : Nat × Int), l16_0 m n x0 x1 s5 = some q → (turns (hds 16 35) 0 35 (cb19 m) n (l16_0H x0 x1 s5) (l16_0B x0 x1 s5)).run = some (l16_0E (x0) (x1) (q.2) q.1)
  | 0, x0, x1, s5, q, h => by cases h
  | n + 1, x0, x1, s5, q, h => l16_0_step m n (l16_0_ok m n) x0 x1 s5 q h

def p16 (m : Nat) (x0 : Q2) (x1 : Q2) : Option (Bool) :=
  if ((((List.length x0) : Nat) : Int) != (((List.length x1) : Nat) : Int)) = true then
    some (false)
  else
    if (Option.isSome (l16_0 m (m + 24) x0 x1 0)) = true then
    if ((l16_0R m (m + 24) x0 x1 0).1 == 0) = true then
      some (false)
    else
      if ((l16_0R m (m + 24) x0 x1 0).1 == 1) = true then
      some (true)
      else none
    else none
theorem p16_ok (m : Nat) (x0 : Q2) (x1 : Q2) (q : Bool) (h : p16 m x0 x1 = some q) : ∃ r B1, (evCall F S30 (m + 25) 16 [(.d (.sl (.pair .str .str) x0)), (.d (.sl (.pair .str .str) x1))] []).run = some (r, B1) ∧ 0 ≤ B1.length ∧ wkR B1 [] r (.d (.bool (q))) ∧ wkBs B1 [] 0 [] := by
  unfold p16 at h
  refine ite_cases h (fun c0 h => ?_) (fun c0 h => ?_)
  · skip
    cases h
    refine ⟨(.d (.bool false)), [], runT_ok (LS := (fun k => none)) (fn := fn16) (vis := []) (by kernel_rfl) rfl (by kernel_rfl) (M.run_of_path _ [tT] _ _ (by kernel_rfl) (all_t c0 all_nil)) ?_, by simp, (wkR.one (wkV.one (wk1.eq rfl))), trivial⟩
    intro p hp; cases hp
  · skip
    obtain ⟨c1, h⟩ := iY h
    refine ite_cases h (fun c2 h => ?_) (fun c2 h => ?_)
    · skip
      cases h
      refine ⟨(.d (.bool false)), [], runT_ok (LS := (fun k => if k = 35 then some (l16_0E x0 x1 ((l16_0R m (m + 24) x0 x1 0).2) 0) else none)) (fn := fn16) (vis := [(35, l16_0H x0 x1 0, l16_0B x0 x1 0)]) (by kernel_rfl) rfl (by kernel_rfl) (M.run_of_path _ [fF] _ _ (by kernel_rfl) (all_f c0 all_nil)) ?_, by simp, (wkR.one (wkV.one (wk1.eq rfl))), trivial⟩
      intro p hp p2 hq
      rcases List.mem_cons.1 hp with rfl | hp
      · skip
        have h3 := l16_0_ok m (m + 24) x0 x1 0 _ (some_getD (d := l16_0D) c1)
        rw [eq_of_beq c2] at h3
        exact Eq.trans (Eq.mp (by kernel_rfl) h3) hq
      cases hp
    · skip
      obtain ⟨c3, h⟩ := iY h
      cases h
      refine ⟨(.d (.bool true)), [], runT_ok (LS := (fun k => if k = 35 then some (l16_0E x0 x1 ((l16_0R m (m + 24) x0 x1 0).2) 1) else none)) (fn := fn16) (vis := [(35, l16_0H x0 x1 0, l16_0B x0 x1 0)]) (by kernel_rfl) rfl (by kernel_rfl) (M.run_of_path _ [fF] _ _ (by kernel_rfl) (all_f c0 all_nil)) ?_, by simp, (wkR.one (wkV.one (wk1.eq rfl))), trivial⟩
      intro p hp p2 hq
      rcases List.mem_cons.1 hp with rfl | hp
      · skip
        have h3 := l16_0_ok m (m + 24) x0 x1 0 _ (some_getD (d := l16_0D) c1)
        rw [eq_of_beq c3] at h3
        exact Eq.trans (Eq.mp (by kernel_rfl) h3) hq
      cases hp

theorem eq16_loop (m : Nat) (a b : Q2) (hl : a.length = b.length) (hb : a.length < 4611686018427387904) : ∀ n k, k ≤ a.length → a.length - k < n → ∃ j, l16_0 m n a b (k : Nat) = some (if a.drop k == b.drop k then 1 else 0, j)
  | 0, k, _, h => by omega
  | n + 1, k, hk, hn => by
    rw [l16_0]
    by_cases h : k < a.length
    · have hs : ∀ u v : (Q4) × (Q4), ((u.1 == v.1) && ((u.2 == v.2) && true)) = (u == v) := fun u v => by rw [Bool.and_true]; rfl
      have e1 : decide (((k : Nat) : Int) < ((a.length : Nat) : Int)) = true := decide_eq_true (by omega)
      have e2 : decide ((0 : Int) ≤ ((k : Nat) : Int)) = true := decide_eq_true (by omega)
      have e3 : decide (((k : Nat) : Int) < ((b.length : Nat) : Int)) = true := decide_eq_true (by omega)
      simp only [e1, e2, e3, if_true, Int.toNat_natCast,hs]
      rw [drop_getD a k (([] : Q4), ([] : Q4)) h, drop_getD b k (([] : Q4), ([] : Q4)) (by omega)]
      have ew : IntKind.wrap .i64 (((k : Nat) : Int) + (1)) = ((k + 1 : Nat) : Int) := by rw [wrap_id (by omega) (by omega)]; rfl
      rw [ew]
      obtain ⟨j, hj⟩ := eq16_loop m a b hl hb n (k + 1) (by omega) (by omega)
      have hc : ((a.getD k (([] : Q4), ([] : Q4))) :: a.drop (k + 1) == (b.getD k (([] : Q4), ([] : Q4))) :: b.drop (k + 1)) = (((a.getD k (([] : Q4), ([] : Q4))) == (b.getD k (([] : Q4), ([] : Q4)))) && (a.drop (k + 1) == b.drop (k + 1))) := rfl
      rw [hc]
      rcases Bool.eq_false_or_eq_true ((a.getD k (([] : Q4), ([] : Q4))) == (b.getD k (([] : Q4), ([] : Q4)))) with he | he
      · exact ⟨j, by simp only [he, hj]; simp⟩
      · exact ⟨(k : Nat), by simp only [he]; simp⟩
    · have e1 : decide (((k : Nat) : Int) < ((a.length : Nat) : Int)) = false := decide_eq_false (by omega)
      refine ⟨(k : Nat), ?_⟩
      simp only [e1, Bool.false_eq_true, if_false]
      rw [List.drop_eq_nil_of_le (by omega), List.drop_eq_nil_of_le (by omega)]
      rfl
theorem eq16 (a b : Q2) (h : decide (List.length a < 4611686018427387904) = true) : ∃ m, p16 m a b = some (a == b) := by
  have hb := of_decide_eq_true h
  refine ⟨a.length, ?_⟩
  unfold p16 l16_0R
  by_cases hl : a.length = b.length
  · have e0 : ((((List.length a) : Nat) : Int) != (((List.length b) : Nat) : Int)) = false := by simp [hl]
    obtain ⟨j, hj⟩ := eq16_loop a.length a b hl hb (a.length + 24) 0 (by omega) (by omega)
    simp only [Int.natCast_zero, List.drop_zero] at hj
    rw [e0]
    simp only [Bool.false_eq_true, if_false]
    rw [hj]
    cases hab : a == b <;> simp [hab]
  · have e0 : ((((List.length a) : Nat) : Int) != (((List.length b) : Nat) : Int)) = true := by simp; omega
    rw [e0]
    have : (a == b) = false := by
      rw [beq_eq_false_iff_ne]
      intro e; rw [e] at hl; exact hl rfl
    simp [this]
def s16 : List AV → Boxes → M (AV × Boxes) := normS [.val (.sl (.pair .str .str)), .val (.sl (.pair .str .str))] [] fun xs B => match xs, B with
  | [(.d (.sl (.pair .str .str) c1)), (.d (.sl (.pair .str .str) c2))], [] => .chk (decide (List.length c1 < 4611686018427387904)) (.ret ((.d (.bool ((show Q2 from c1) == c2))), []))
  | _, _ => .fail
theorem s16_at : CallAt Tryd.prog 16 s16 := by
  refine CallAt.norm (CallAt.weakE (g := fun n => evCall F S30 n 16) (fun n => evCall_atH mixed kinds hds S30 S30_ok n 16) fun xs B r' B' hr => ?_) _ _
  split at hr
  · rename_i c1 c2
    obtain ⟨hp, hr⟩ := (M.run_chk _ _ _).1 hr
    simp only [M.run, Option.some.injEq, Prod.mk.injEq] at hr
    obtain ⟨rfl, rfl⟩ := hr
    obtain ⟨m, hm⟩ := eq16 c1 c2 hp
    obtain ⟨r, B1, h1, h2, h3, h4⟩ := p16_ok m c1 c2 _ hm
    exact ⟨m + 25, r, B1, h1, by simp, h2, h3, h4⟩
  · simp [M.run] at hr
noncomputable def S31 : FuncId → Option (List AV → Boxes → M (AV × Boxes)) := fun f => if f = 16 then some s16 else S30 f
theorem S31_ok : ∀ f s, S31 f = some s → CallAt Tryd.prog f s := by
  intro f s h
  unfold S31 at h
  split at h
  · rename_i e; subst e; cases h; exact s16_at
  · exact S30_ok f s h

noncomputable def fn18 : AFn := (F 18).getD ⟨0, [], .bad, false, false, noHd⟩
noncomputable def body18 : AC := fn18.body
def l18_0 (m : Nat) : Nat → Q0 → Q0 → Int → Int → Option (Nat × Int)
  | 0, _, _, _, _ => none
  | n + 1, x0, x1, s12, s13 => if decide (s13 < s12) = true then
      if decide (0 ≤ s13) = true then
      if decide (s13 < (((List.length x0) : Nat) : Int)) = true then
      if decide (s13 < (((List.length x1) : Nat) : Int)) = true then
      if decide (List.length (List.getD x0 (Int.toNat s13) (([] : Q2), 0)).1 < 4611686018427387904) = true then
      if ((show Q2 from (List.getD x0 (Int.toNat s13) (([] : Q2), 0)).1) == (List.getD x1 (Int.toNat s13) (([] : Q2), 0)).1) = true then
        if ((List.getD x0 (Int.toNat s13) (([] : Q2), 0)).2 != (List.getD x1 (Int.toNat s13) (([] : Q2), 0)).2) = true then
          some (1, s13)
        else
          l18_0 m n x0 x1 s12 ((IntKind.wrap .i64 (s13 + (1))))
      else
        some (0, s13)
      else none
      else none
      else none
      else none
    else
      some (2, s13)
def l18_0D : Nat × Int := (0, 0)
@[reducible] def l18_0R (m n : Nat) (x0 : Q0) (x1 : Q0) (s12 : Int) (s13 : Int) : Nat × Int := Option.getD (l18_0 m n x0 x1 s12 s13) l18_0D
def l18_0H (x0 : Q0) (x1 : Q0) (s12 : Int) (s13 : Int) : Env := ((.d (.sl (.pair (.sl (.pair .str .str)) (.int .i64)) x0)) :: (.d (.sl (.pair (.sl (.pair .str .str)) (.int .i64)) x1)) :: tp10 ((.d (.int .i64 s12)) :: (.d (.int .i64 s13)) :: tp28 []))
def l18_0B (x0 : Q0) (x1 : Q0) (s12 : Int) (s13 : Int) : Boxes := []
def l18_0E (x0 : Q0) (x1 : Q0) (s12 : Int) (s13 : Int) : Nat → AEx × Env × Boxes
  | 0 => (.ret, [(.d (.sl (.pair (.sl (.pair .str .str)) (.int .i64)) x0)), (.d (.sl (.pair (.sl (.pair .str .str)) (.int .i64)) x1)), .top, .top, (.d (.bool false)), (.d (.int .i64 s13)), .top, .top, .top, .top, .top, .top, (.d (.int .i64 s12)), (.d (.int .i64 s13)), (.d (.bool (decide (s13 < s12)))), (.d (.int .i64 s13)), (.d (.sl (.pair (.sl (.pair .str .str)) (.int .i64)) x0)), (.d (.int .i64 s13)), (.cptr [(.sl (.pair .str .str) (List.getD x0 (Int.toNat s13) (([] : Q2), 0)).1), (.int .i64 (List.getD x0 (Int.toNat s13) (([] : Q2), 0)).2)] 0), (.cptr [(.sl (.pair .str .str) (List.getD x0 (Int.toNat s13) (([] : Q2), 0)).1), (.int .i64 (List.getD x0 (Int.toNat s13) (([] : Q2), 0)).2)] 0), (.d (.sl (.pair .str .str) (List.getD x0 (Int.toNat s13) (([] : Q2), 0)).1)), (.d (.sl (.pair (.sl (.pair .str .str)) (.int .i64)) x1)), (.d (.int .i64 s13)), (.cptr [(.sl (.pair .str .str) (List.getD x1 (Int.toNat s13) (([] : Q2), 0)).1), (.int .i64 (List.getD x1 (Int.toNat s13) (([] : Q2), 0)).2)] 0), (.cptr [(.sl (.pair .str .str) (List.getD x1 (Int.toNat s13) (([] : Q2), 0)).1), (.int .i64 (List.getD x1 (Int.toNat s13) (([] : Q2), 0)).2)] 0), (.d (.sl (.pair .str .str) (List.getD x1 (Int.toNat s13) (([] : Q2), 0)).1)), (.d (.bool ((show Q2 from (List.getD x0 (Int.toNat s13) (([] : Q2), 0)).1) == (List.getD x1 (Int.toNat s13) (([] : Q2), 0)).1))), (.d (.bool (!((show Q2 from (List.getD x0 (Int.toNat s13) (([] : Q2), 0)).1) == (List.getD x1 (Int.toNat s13) (([] : Q2), 0)).1)))), (.d (.bool (!((show Q2 from (List.getD x0 (Int.toNat s13) (([] : Q2), 0)).1) == (List.getD x1 (Int.toNat s13) (([] : Q2), 0)).1)))), (.tup []), (.tup []), (.tup []), (.tup []), (.tup []), (.tup []), (.tup []), (.tup []), (.tup []), (.tup []), (.tup []), (.d (.bool true)), .top], [.dead, .dead, .dead, .dead, .dead, .dead, .dead, .dead, .dead, .dead, .dead, .dead, .dead, .dead, .dead, .dead, .dead, .dead, .dead, .dead, .dead, .dead, .dead, .dead, .dead, .dead, .dead, .dead, .dead, .dead, .dead, .dead, .dead, .dead, .dead, .dead, .dead, .dead, .dead, .dead, .dead, .dead, .dead, .dead, .dead, .dead, .dead, .dead, .dead, .dead, .dead, .dead, .dead, .dead, .dead, .dead, .dead, .dead, .dead, .dead, .dead, .dead, .dead, .dead, .dead, .dead, .dead, .dead, .dead, .dead, .dead, .dead, .dead, .dead, .dead, .dead, .dead, .dead, .dead, .dead, .dead, .dead, .dead, .dead, .dead, .dead, .dead, .dead, .dead, .dead, .dead, .dead, .dead, .dead, .dead, .dead, .dead, .dead, .dead, .dead])
  | 1 => (.ret, [(.d (.sl (.pair (.sl (.pair .str .str)) (.int .i64)) x0)), (.d (.sl (.pair (.sl (.pair .str .str)) (.int .i64)) x1)), .top, .top, (.d (.bool false)), (.d (.int .i64 s13)), .top, .top, .top, .top, .top, .top, (.d (.int .i64 s12)), (.d (.int .i64 s13)), (.d (.bool (decide (s13 < s12)))), (.d (.int .i64 s13)), (.d (.sl (.pair (.sl (.pair .str .str)) (.int .i64)) x0)), (.d (.int .i64 s13)), (.cptr [(.sl (.pair .str .str) (List.getD x0 (Int.toNat s13) (([] : Q2), 0)).1), (.int .i64 (List.getD x0 (Int.toNat s13) (([] : Q2), 0)).2)] 0), (.cptr [(.sl (.pair .str .str) (List.getD x0 (Int.toNat s13) (([] : Q2), 0)).1), (.int .i64 (List.getD x0 (Int.toNat s13) (([] : Q2), 0)).2)] 0), (.d (.sl (.pair .str .str) (List.getD x0 (Int.toNat s13) (([] : Q2), 0)).1)), (.d (.sl (.pair (.sl (.pair .str .str)) (.int .i64)) x1)), (.d (.int .i64 s13)), (.cptr [(.sl (.pair .str .str) (List.getD x1 (Int.toNat s13) (([] : Q2), 0)).1), (.int .i64 (List.getD x1 (Int.toNat s13) (([] : Q2), 0)).2)] 0), (.cptr [(.sl (.pair .str .str) (List.getD x1 (Int.toNat s13) (([] : Q2), 0)).1), (.int .i64 (List.getD x1 (Int.toNat s13) (([] : Q2), 0)).2)] 0), (.d (.sl (.pair .str .str) (List.getD x1 (Int.toNat s13) (([] : Q2), 0)).1)), (.d (.bool ((show Q2 from (List.getD x0 (Int.toNat s13) (([] : Q2), 0)).1) == (List.getD x1 (Int.toNat s13) (([] : Q2), 0)).1))), (.d (.bool (!((show Q2 from (List.getD x0 (Int.toNat s13) (([] : Q2), 0)).1) == (List.getD x1 (Int.toNat s13) (([] : Q2), 0)).1)))), (.d (.bool (!((show Q2 from (List.getD x0 (Int.toNat s13) (([] : Q2), 0)).1) == (List.getD x1 (Int.toNat s13) (([] : Q2), 0)).1)))), (.d (.sl (.pair (.sl (.pair .str .str)) (.int .i64)) x0)), (.d (.int .i64 s13)), (.cptr [(.sl (.pair .str .str) (List.getD x0 (Int.toNat s13) (([] : Q2), 0)).1), (.int .i64 (List.getD x0 (Int.toNat s13) (([] : Q2), 0)).2)] 0), (.cptr [(.sl (.pair .str .str) (List.getD x0 (Int.toNat s13) (([] : Q2), 0)).1), (.int .i64 (List.getD x0 (Int.toNat s13) (([] : Q2), 0)).2)] 1), (.d (.int .i64 (List.getD x0 (Int.toNat s13) (([] : Q2), 0)).2)), (.d (.sl (.pair (.sl (.pair .str .str)) (.int .i64)) x1)), (.d (.int .i64 s13)), (.cptr [(.sl (.pair .str .str) (List.getD x1 (Int.toNat s13) (([] : Q2), 0)).1), (.int .i64 (List.getD x1 (Int.toNat s13) (([] : Q2), 0)).2)] 0), (.cptr [(.sl (.pair .str .str) (List.getD x1 (Int.toNat s13) (([] : Q2), 0)).1), (.int .i64 (List.getD x1 (Int.toNat s13) (([] : Q2), 0)).2)] 1), (.d (.int .i64 (List.getD x1 (Int.toNat s13) (([] : Q2), 0)).2)), (.d (.bool ((List.getD x0 (Int.toNat s13) (([] : Q2), 0)).2 != (List.getD x1 (Int.toNat s13) (([] : Q2), 0)).2))), (.d (.bool ((List.getD x0 (Int.toNat s13) (([] : Q2), 0)).2 != (List.getD x1 (Int.toNat s13) (([] : Q2), 0)).2))), .top], [.dead, .dead, .dead, .dead, .dead, .dead, .dead, .dead, .dead, .dead, .dead, .dead, .dead, .dead, .dead, .dead, .dead, .dead, .dead, .dead, .dead, .dead, .dead, .dead, .dead, .dead, .dead, .dead, .dead, .dead, .dead, .dead, .dead, .dead, .dead, .dead, .dead, .dead, .dead, .dead, .dead, .dead, .dead, .dead, .dead, .dead, .dead, .dead, .dead, .dead, .dead, .dead, .dead, .dead, .dead, .dead, .dead, .dead, .dead, .dead, .dead, .dead, .dead, .dead, .dead, .dead, .dead, .dead, .dead, .dead, .dead, .dead, .dead, .dead, .dead, .dead, .dead, .dead, .dead, .dead, .dead, .dead, .dead, .dead, .dead, .dead, .dead, .dead, .dead, .dead, .dead, .dead, .dead, .dead, .dead, .dead, .dead, .dead, .dead, .dead])
  | _ => (.exit 0, ((.d (.sl (.pair (.sl (.pair .str .str)) (.int .i64)) x0)) :: (.d (.sl (.pair (.sl (.pair .str .str)) (.int .i64)) x1)) :: tp10 ((.d (.int .i64 s12)) :: (.d (.int .i64 s13)) :: (.d (.bool (decide (s13 < s12)))) :: tp27 [])), [])
noncomputable def lbl18_0 : AC := loopBody 12291 body18
@[reducible] noncomputable def cb20 (m : Nat) := (evC byref (evCall F S31 (m + 24)) (m + 24) 0 (hds 18) lbl18_0)


theorem l18_0_step (m n : Nat) (ih : ∀ (x0 : Q0) (x1 : Q0) (s12 : Int) (s13 : Int) (q : Nat × Int), l18_0 m n x0 x1 s12 s13 = some q → (turns (hds 18 12291) 0 12291 (cb20 m) n (l18_0H x0 x1 s12 s13) (l18_0B x0 x1 s12 s13)).run = some (l18_0E (x0) (x1) (s12) (q.2) q.1)) (x0 : Q0) (x1 : Q0) (s12 : Int) (s13 : Int) (q : Nat × Int) (h : l18_0 m (n + 1) x0 x1 s12 s13 = some q) : (turns (hds 18 12291) 0 12291 (cb20 m) (n + 1) (l18_0H x0 x1 s12 s13) (l18_0B x0 x1 s12 s13)).run = some (l18_0E (x0) (x1) (s12) (q.2) q.1) := by
  rw [l18_0] at h
  refine ite_cases h (fun c0 h => ?_) (fun c0 h => ?_)
  · skip
    obtain ⟨c1, h⟩ := iY h
    obtain ⟨c2, h⟩ := iY h
    obtain ⟨c4, h⟩ := iY h
    obtain ⟨c5, h⟩ := iY h
    refine ite_cases h (fun c6 h => ?_) (fun c6 h => ?_)
    · skip
      refine ite_cases h (fun c22 h => ?_) (fun c22 h => ?_)
      · skip
        cases h
        refine turns_last (by simp) ?_
        exact M.run_of_path _ [tT, tT, tT, tT, tT, tT, fF, fF, fF, tT, tT, fF, fF, fF, fF, fF, tT, tT, fF, fF, fF, fF, tT] _ _ (by kernel_rfl) (all_t c0 (all_t c1 (all_t c2 (all_t c1 (all_t c4 (all_t c5 (all_nt c6 (all_nt c6 (all_nt c6 (all_t c1 (all_t c2 (all_nt c6 (all_nt c6 (all_nt c6 (all_nt c6 (all_nt c6 (all_t c1 (all_t c4 (all_nt c6 (all_nt c6 (all_nt c6 (all_nt c6 (all_t c22 all_nil)))))))))))))))))))))))
      · skip
        have ih := ih _ _ _ _ q h
        refine turns_step ?_ ih
        exact M.run_of_path _ [tT, tT, tT, tT, tT, tT, fF, fF, fF, tT, tT, fF, fF, fF, fF, fF, tT, tT, fF, fF, fF, fF, fF] _ _ (by kernel_rfl) (all_t c0 (all_t c1 (all_t c2 (all_t c1 (all_t c4 (all_t c5 (all_nt c6 (all_nt c6 (all_nt c6 (all_t c1 (all_t c2 (all_nt c6 (all_nt c6 (all_nt c6 (all_nt c6 (all_nt c6 (all_t c1 (all_t c4 (all_nt c6 (all_nt c6 (all_nt c6 (all_nt c6 (all_f c22 all_nil)))))))))))))))))))))))
    · skip
      cases h
      refine turns_last (by simp) ?_
      exact M.run_of_path _ [tT, tT, tT, tT, tT, tT, tT, tT, tT, tT, tT, tT, tT, tT, tT, tT, tT, tT, tT] _ _ (by kernel_rfl) (all_t c0 (all_t c1 (all_t c2 (all_t c1 (all_t c4 (all_t c5 (all_nf c6 (all_nf c6 (all_nf c6 (all_nf c6 (all_nf c6 (all_nf c6 (all_nf c6 (all_nf c6 (all_nf c6 (all_nf c6 (all_nf c6 (all_nf c6 (all_t rfl all_nil)))))))))))))))))))
  · skip
    cases h
    refine turns_last (by simp) ?_
    exact M.run_of_path _ [fF] _ _ (by kernel_rfl) (all_f c0 all_nil)
theorem l18_0_ok (m : Nat) : ∀ (n : Nat) (x0 : Q0) (x1 : Q0) (s12 : Int) (s13 : Int) (q : Nat × Int), l18_0 m n x0 x1 s12 s13 = some q → (turns (hds 18 12291) 0 12291 (cb20 m) n (l18_0H x0 x1 s12 s13) (l18_0B x0 x1 s12 s13)).run = some (l18_0E (x0) (x1) (s12) (q.2) q.1)
  | 0, x0, x1, s12, s13, q, h => by cases h
  | n + 1, x0, x1, s12, s13, q, h => l18_0_step m n (l18_0_ok m n) x0 x1 s12 s13 q h

def p18 (m : Nat) (x0 : Q0) (x1 : Q0) : Option (Bool) :=
  if ((((List.length x0) : Nat) : Int) != (((List.length x1) : Nat) : Int)) = true then
    some (false)
  else
    if (Option.isSome (l18_0 m (m + 24) x0 x1 ((((List.length x0) : Nat) : Int)) 0)) = true then
    if ((l18_0R m (m + 24) x0 x1 ((((List.length x0) : Nat) : Int)) 0).1 == 0) = true then
      some (false)
    else
      if ((l18_0R m (m + 24) x0 x1 ((((List.length x0) : Nat) : Int)) 0).1 == 1) = true then
        some (false)
      else
        if ((l18_0R m (m + 24) x0 x1 ((((List.length x0) : Nat) : Int)) 0).1 == 2) = true then
        some (true)
        else none
    else none
theorem p18_ok (m : Nat) (x0 : Q0) (x1 : Q0) (q : Bool) (h : p18 m x0 x1 = some q) : ∃ r B1, (evCall F S31 (m + 25) 18 [(.d (.sl (.pair (.sl (.pair .str .str)) (.int .i64)) x0)), (.d (.sl (.pair (.sl (.pair .str .str)) (.int .i64)) x1))] []).run = some (r, B1) ∧ 0 ≤ B1.length ∧ wkR B1 [] r (.d (.bool (q))) ∧ wkBs B1 [] 0 [] := by
  unfold p18 at h
  refine ite_cases h (fun c0 h => ?_) (fun c0 h => ?_)
  · skip
    cases h
    refine ⟨(.d (.bool false)), [], runT_ok (LS := (fun k => none)) (fn := fn18) (vis := []) (by kernel_rfl) rfl (by kernel_rfl) (M.run_of_path _ [tT] _ _ (by kernel_rfl) (all_t c0 all_nil)) ?_, by simp, (wkR.one (wkV.one (wk1.eq rfl))), trivial⟩
    intro p hp; cases hp
  · skip
    obtain ⟨c1, h⟩ := iY h
    refine ite_cases h (fun c2 h => ?_) (fun c2 h => ?_)
    · skip
      cases h
      refine ⟨(.d (.bool false)), [], runT_ok (LS := (fun k => if k = 12291 then some (l18_0E x0 x1 (((((List.length x0) : Nat) : Int))) ((l18_0R m (m + 24) x0 x1 ((((List.length x0) : Nat) : Int)) 0).2) 0) else none)) (fn := fn18) (vis := [(12291, l18_0H x0 x1 ((((List.length x0) : Nat) : Int)) 0, l18_0B x0 x1 ((((List.length x0) : Nat) : Int)) 0)]) (by kernel_rfl) rfl (by kernel_rfl) (M.run_of_path _ [fF] _ _ (by kernel_rfl) (all_f c0 all_nil)) ?_, by simp, (wkR.one (wkV.one (wk1.eq rfl))), trivial⟩
      intro p hp p2 hq
      rcases List.mem_cons.1 hp with rfl | hp
      · skip
        have h3 := l18_0_ok m (m + 24) x0 x1 ((((List.length x0) : Nat) : Int)) 0 _ (some_getD (d := l18_0D) c1)
        rw [eq_of_beq c2] at h3
        exact Eq.trans (Eq.mp (by kernel_rfl) h3) hq
      cases hp
    · skip
      refine ite_cases h (fun c3 h => ?_) (fun c3 h => ?_)
      · skip
        cases h
        refine ⟨(.d (.bool false)), [], runT_ok (LS := (fun k => if k = 12291 then some (l18_0E x0 x1 (((((List.length x0) : Nat) : Int))) ((l18_0R m (m + 24) x0 x1 ((((List.length x0) : Nat) : Int)) 0).2) 1) else none)) (fn := fn18) (vis := [(12291, l18_0H x0 x1 ((((List.length x0) : Nat) : Int)) 0, l18_0B x0 x1 ((((List.length x0) : Nat) : Int)) 0)]) (by kernel_rfl) rfl (by kernel_rfl) (M.run_of_path _ [fF] _ _ (by kernel_rfl) (all_f c0 all_nil)) ?_, by simp, (wkR.one (wkV.one (wk1.eq rfl))), trivial⟩
        intro p hp p2 hq
        rcases List.mem_cons.1 hp with rfl | hp
        · skip
          have h3 := l18_0_ok m (m + 24) x0 x1 ((((List.length x0) : Nat) : Int)) 0 _ (some_getD (d := l18_0D) c1)
          rw [eq_of_beq c3] at h3
          exact Eq.trans (Eq.mp (by kernel_rfl) h3) hq
        cases hp
      · skip
        obtain ⟨c4, h⟩ := iY h
        cases h
        refine ⟨(.d (.bool true)), [], runT_ok (LS := (fun k => if k = 12291 then some (l18_0E x0 x1 (((((List.length x0) : Nat) : Int))) ((l18_0R m (m + 24) x0 x1 ((((List.length x0) : Nat) : Int)) 0).2) 2) else none)) (fn := fn18) (vis := [(12291, l18_0H x0 x1 ((((List.length x0) : Nat) : Int)) 0, l18_0B x0 x1 ((((List.length x0) : Nat) : Int)) 0)]) (by kernel_rfl) rfl (by kernel_rfl) (M.run_of_path _ [fF] _ _ (by kernel_rfl) (all_f c0 all_nil)) ?_, by simp, (wkR.one (wkV.one (wk1.eq rfl))), trivial⟩
        intro p hp p2 hq
        rcases List.mem_cons.1 hp with rfl | hp
        · skip
          have h3 := l18_0_ok m (m + 24) x0 x1 ((((List.length x0) : Nat) : Int)) 0 _ (some_getD (d := l18_0D) c1)
          rw [eq_of_beq c4] at h3
          exact Eq.trans (Eq.mp (by kernel_rfl) h3) hq
        cases hp

def ptsPre (a : VL) : Bool := vPre a
theorem pts_loop (m : Nat) (a b : VL) (hl : a.length = b.length) (ha : vPre a = true) : ∀ (n k : Nat), k ≤ a.length → a.length - k < n →
    ∃ e j, l18_0 m n a b ((a.length : Nat) : Int) (k : Nat) = some (e, j) ∧ ((e = 2 ∧ (a.drop k == b.drop k) = true) ∨ ((e = 0 ∨ e = 1) ∧ (a.drop k == b.drop k) = false))
  | 0, k, _, h => by omega
  | n + 1, k, h1, h2 => by
    rw [l18_0]
    obtain ⟨a1, a2⟩ := of_decide_eq_true ha
    by_cases hk : k < a.length
    · have e1 : decide (((k : Nat) : Int) < (((List.length a) : Nat) : Int)) = true := decide_eq_true (by omega)
      have e2 : decide ((0 : Int) ≤ ((k : Nat) : Int)) = true := decide_eq_true (by omega)
      have e3 : decide (((k : Nat) : Int) < (((List.length b) : Nat) : Int)) = true := decide_eq_true (by omega)
      have e7 : IntKind.wrap .i64 (((k : Nat) : Int) + (1)) = ((k + 1 : Nat) : Int) := by rw [wrap_id (by omega) (by omega)]; rfl
      have hq := a2 _ (getD_mem a k (([] : LB), 0) hk)
      rw [drop_getD a k (([] : LB), 0) hk, drop_getD b k (([] : LB), 0) (by omega), show Int.toNat ((k : Nat) : Int) = k from rfl, e7, if_pos e1, if_pos e2, if_pos e1, if_pos e3]
      generalize a.getD k (([] : LB), 0) = p at hq
      generalize b.getD k (([] : LB), 0) = q
      have hc : (p :: a.drop (k + 1) == q :: b.drop (k + 1)) = ((p.1 == q.1 && p.2 == q.2) && (a.drop (k + 1) == b.drop (k + 1))) := rfl
      rw [if_pos (decide_eq_true (by omega)), hc]
      by_cases c1 : (p.1 == q.1) = true
      · have c1' : ((show Q2 from p.1) == q.1) = true := c1
        rw [if_pos c1', c1, Bool.true_and]
        by_cases c2 : (p.2 == q.2) = true
        · have c2' : (p.2 != q.2) = false := by rw [bne, c2]; rfl
          rw [c2', if_neg (by simp), c2, Bool.true_and]
          exact pts_loop m a b hl ha n (k + 1) (by omega) (by omega)
        · have c2' : (p.2 != q.2) = true := by rw [bne]; simpa using c2
          have c3 : (p.2 == q.2) = false := by simpa using c2
          rw [if_pos c2', c3]
          exact ⟨1, _, rfl, .inr ⟨.inr rfl, rfl⟩⟩
      · have c1' : ¬ ((show Q2 from p.1) == q.1) = true := c1
        have c3 : (p.1 == q.1) = false := by simpa using c1
        rw [if_neg c1', c3]
        exact ⟨0, _, rfl, .inr ⟨.inl rfl, rfl⟩⟩
    · have e1 : decide (((k : Nat) : Int) < (((List.length a) : Nat) : Int)) = false := decide_eq_false (by omega)
      rw [e1, if_neg (by simp), List.drop_eq_nil_of_le (by omega), List.drop_eq_nil_of_le (by omega)]
      exact ⟨2, _, rfl, .inl ⟨rfl, rfl⟩⟩
theorem pts18 (a b : VL) (h : ptsPre a = true) : ∃ m, p18 m a b = some ((show List (List (Q4 × Q4) × Int) from a) == b) := by
  refine ⟨a.length, ?_⟩
  unfold p18 l18_0R
  by_cases hl : a.length = b.length
  · have e0 : ((((List.length a) : Nat) : Int) != (((List.length b) : Nat) : Int)) = false := by simp [hl]
    obtain ⟨e, j, hj, he⟩ := pts_loop a.length a b hl h (a.length + 24) 0 (by omega) (by omega)
    simp only [Int.natCast_zero, List.drop_zero] at hj he
    rw [e0, if_neg (by simp), hj]
    show _ = some (a == b)
    rcases he with ⟨rfl, he⟩ | ⟨rfl | rfl, he⟩ <;> rw [he] <;> rfl
  · have e0 : ((((List.length a) : Nat) : Int) != (((List.length b) : Nat) : Int)) = true := by simp; omega
    rw [e0, if_pos rfl]
    have : (a == b) = false := by
      rw [beq_eq_false_iff_ne]
      intro e; rw [e] at hl; exact hl rfl
    show _ = some (a == b)
    rw [this]
def s18 : List AV → Boxes → M (AV × Boxes) := normS [.val (.sl (.pair (.sl (.pair .str .str)) (.int .i64))), .val (.sl (.pair (.sl (.pair .str .str)) (.int .i64)))] [] fun xs B => match xs, B with
  | [(.d (.sl (.pair (.sl (.pair .str .str)) (.int .i64)) c1)), (.d (.sl (.pair (.sl (.pair .str .str)) (.int .i64)) c2))], [] => .chk (ptsPre c1) (.ret ((.d (.bool ((show List (List (Q4 × Q4) × Int) from c1) == c2))), []))
  | _, _ => .fail
theorem s18_at : CallAt Tryd.prog 18 s18 := by
  refine CallAt.norm (CallAt.weakE (g := fun n => evCall F S31 n 18) (fun n => evCall_atH mixed kinds hds S31 S31_ok n 18) fun xs B r' B' hr => ?_) _ _
  split at hr
  · rename_i c1 c2
    obtain ⟨hp, hr⟩ := (M.run_chk _ _ _).1 hr
    simp only [M.run, Option.some.injEq, Prod.mk.injEq] at hr
    obtain ⟨rfl, rfl⟩ := hr
    obtain ⟨m, hm⟩ := pts18 c1 c2 hp
    obtain ⟨r, B1, h1, h2, h3, h4⟩ := p18_ok m c1 c2 _ hm
    exact ⟨m + 25, r, B1, h1, by simp, h2, h3, h4⟩
  · simp [M.run] at hr
noncomputable def S32 : FuncId → Option (List AV → Boxes → M (AV × Boxes)) := fun f => if f = 18 then some s18 else S31 f
theorem S32_ok : ∀ f s, S32 f = some s → CallAt Tryd.prog f s := by
  intro f s h
  unfold S32 at h
  split at h
  · rename_i e; subst e; cases h; exact s18_at
  · exact S31_ok f s h

end Go.Proofs.YtahdcmicifokgaaDoor.Dec
namespace Go.Proofs.YtahdcmicifokgaaDoor.Dec
open Go.Ev
set_option linter.unusedVariables false
set_option linter.unusedSimpArgs false
set_option maxRecDepth 100000
set_option maxHeartbeats 20000000
def trueG : List D → M AV
  | [] => .ret (.d (.bool true))
  | _ => .fail
theorem runs20 : Known Tryd.prog 20 [] (.d (.bool true)) := known Go.Proofs.YtahdcmicifokgaaDoor.Ev.mixed (kinds := Go.Proofs.YtahdcmicifokgaaDoor.Ev.kinds) (n := 300) Go.Proofs.YtahdcmicifokgaaDoor.Ev.S_ok (by kernel_rfl)
theorem true20 : CallAt Tryd.prog 20 (plainV trueG) := by
  refine plainV_at fun ds r hr => ?_
  unfold trueG at hr
  split at hr
  · simp only [M.run, Option.some.injEq] at hr
    subst hr
    exact runs20
  · simp [M.run] at hr

noncomputable def S33 : FuncId → Option (List AV → Boxes → M (AV × Boxes)) := fun f => if f = 20 then some (plainV trueG) else S32 f
theorem S33_ok : ∀ f s, S33 f = some s → CallAt Tryd.prog f s := by
  intro f s h
  unfold S33 at h
  split at h
  · rename_i e; subst e; cases h; exact true20
  · exact S32_ok f s h

theorem set4_right (h0 h1 h2 h3 : Bool) {v0 v1 v2 v3 : Q4} (a0 : 1 ≤ v0.length ∧ v0.length ≤ 3) (a1 : 1 ≤ v1.length ∧ v1.length ≤ 3) (a2 : 1 ≤ v2.length ∧ v2.length ≤ 3) (a3 : 1 ≤ v3.length ∧ v3.length ≤ 3) : lrightG (set4 h0 h1 h2 h3 v0 v1 v2 v3) = true := by
  have w0 : wordG [97] = true := by decide
  have w1 : wordG [98] = true := by decide
  have w2 : wordG [99] = true := by decide
  have w3 : wordG [110, 97, 109, 101] = true := by decide
  have l1 : Op.bytesLess ([97] : Q4) [98] = true := by decide
  have l2 : Op.bytesLess ([97] : Q4) [99] = true := by decide
  have l3 : Op.bytesLess ([98] : Q4) [99] = true := by decide
  have l4 : Op.bytesLess ([97] : Q4) [110, 97, 109, 101] = true := by decide
  have l5 : Op.bytesLess ([98] : Q4) [110, 97, 109, 101] = true := by decide
  have l6 : Op.bytesLess ([99] : Q4) [110, 97, 109, 101] = true := by decide
  have g0 : lab1 (([97] : Q4), v0) = true := by unfold lab1; rw [w0, decide_eq_true a0.1, decide_eq_true (show v0.length ≤ 24 by omega)]; rfl
  have g1 : lab1 (([98] : Q4), v1) = true := by unfold lab1; rw [w1, decide_eq_true a1.1, decide_eq_true (show v1.length ≤ 24 by omega)]; rfl
  have g2 : lab1 (([99] : Q4), v2) = true := by unfold lab1; rw [w2, decide_eq_true a2.1, decide_eq_true (show v2.length ≤ 24 by omega)]; rfl
  have g3 : lab1 (([110, 97, 109, 101] : Q4), v3) = true := by unfold lab1; rw [w3, decide_eq_true a3.1, decide_eq_true (show v3.length ≤ 24 by omega)]; rfl
  cases h0 <;> cases h1 <;> cases h2 <;> cases h3 <;> simp [set4, lrightG, lrise, g0, g1, g2, g3, l1, l2, l3, l4, l5, l6]
theorem set4_pre {l : LB} (h : lrightG l = true) : lrightPre l = true := by
  have := lright_all h
  exact decide_eq_true ⟨by omega, fun z hz => by have := this.2 z hz; omega⟩
def PG (p : PT1) : Prop := lrightG p.1 = true ∧ -9 ≤ p.2 ∧ p.2 ≤ 20
theorem pt_right (k : List Int × List Int) (v : Int) : lrightG (ptSet k v) = true := by
  obtain ⟨a0, a1, a2, a3, v0, v1, v2, v3, q1, q2, q3, q4, q5⟩ := pt_set4 k v
  rw [q1]
  exact set4_right a0 a1 a2 a3 q2 q3 q4 q5
theorem keyS_iff : ∀ (l : Q3) (t : Q4), hasKey .str l t = true ↔ t ∈ l
  | [], t => by
    constructor
    · intro h; exact absurd h (by simp [hasKey])
    · intro h; simp at h
  | x :: l, t => by
    have : hasKey .str (x :: l) t = ((t == x) || hasKey .str l t) := rfl
    rw [this, Bool.or_eq_true, beq_iff_eq, keyS_iff l t, List.mem_cons]
theorem within_920 (v : Int) : -9 ≤ withinI v (-9) (20) ∧ withinI v (-9) (20) ≤ 20 := by
  have h1 := Int.emod_nonneg v (show (20 - -9 + 1 : Int) ≠ 0 by omega)
  have h2 := Int.emod_lt_of_pos v (show (0 : Int) < 20 - -9 + 1 by omega)
  unfold withinI
  omega
theorem vecGo_ok (vals : List Int) : ∀ (ks : List (List Int × List Int)) (i : Nat) (keys : Q3) (out : VL), (∀ p ∈ out, keyS p.1 ∈ keys) → (∀ p ∈ out, PG p) → out.Pairwise (fun p q => p.1 ≠ q.1) →
    (vecGo vals i ks keys out).length ≤ out.length + ks.length ∧ (∀ p ∈ vecGo vals i ks keys out, PG p) ∧ (vecGo vals i ks keys out).Pairwise (fun p q => p.1 ≠ q.1)
  | [], i, keys, out, _, h2, h3 => ⟨by rw [vecGo]; omega, h2, h3⟩
  | k :: ks, i, keys, out, h1, h2, h3 => by
    rw [vecGo]
    have hr := pt_right k (pickG vals ((i : Nat) : Int))
    generalize ptSet k (pickG vals ((i : Nat) : Int)) = s at hr
    by_cases hk : hasKey .str keys (keyS s) = true
    · rw [if_pos hk]
      obtain ⟨q1, q2, q3⟩ := vecGo_ok vals ks (i + 1) keys out h1 h2 h3
      exact ⟨by rw [List.length_cons]; omega, q2, q3⟩
    · rw [if_neg hk]
      have hn : ¬ keyS s ∈ keys := fun q => hk ((keyS_iff _ _).2 q)
      have hadd : addKey .str keys (keyS s) = keys ++ [keyS s] := by unfold addKey; rw [if_neg hk]
      obtain ⟨q1, q2, q3⟩ := vecGo_ok vals ks (i + 1) (addKey .str keys (keyS s)) (out ++ [(s, withinI (pickG vals ((i + 3 : Nat) : Int)) (-9) (20))])
        (fun p hp => by
          rw [hadd]
          rcases List.mem_append.1 hp with hp | hp
          · exact List.mem_append_left _ (h1 p hp)
          · rw [List.mem_singleton.1 hp]; exact List.mem_append_right _ (List.mem_singleton.2 rfl))
        (fun p hp => by
          rcases List.mem_append.1 hp with hp | hp
          · exact h2 p hp
          · rw [List.mem_singleton.1 hp]; exact ⟨hr, within_920 _⟩)
        (List.pairwise_append.2 ⟨h3, List.pairwise_singleton _ _, fun p hp q hq => by
          rw [List.mem_singleton.1 hq]
          intro e
          have e' : p.1 = s := e
          exact hn (e' ▸ h1 p hp)⟩)
      refine ⟨?_, q2, q3⟩
      rw [List.length_append, List.length_singleton] at q1
      rw [List.length_cons]; omega
theorem vec_ok (k : (List (List Int × List Int)) × List Int) : (vecG k).length ≤ 8 ∧ (∀ p ∈ vecG k, PG p) ∧ (vecG k).Pairwise (fun p q => p.1 ≠ q.1) := by
  obtain ⟨q1, q2, q3⟩ := vecGo_ok k.2 (k.1.take 8) 0 [] [] (fun p h => by simp at h) (fun p h => by simp at h) List.Pairwise.nil
  refine ⟨?_, q2, q3⟩
  have q1 : (vecG k).length ≤ 0 + (k.1.take 8).length := q1
  rw [List.length_take] at q1
  omega

theorem escB_sp {c : UInt8} (h : UInt8.toNat c = 34 ∨ UInt8.toNat c = 92) : escB c = [92, c] := if_pos h
theorem escB_no {c : UInt8} (h : ¬ (UInt8.toNat c = 34 ∨ UInt8.toNat c = 92)) : escB c = [c] := if_neg h
theorem esc_inj : ∀ (v v' r r' : Q4), v.flatMap escB ++ 34 :: r = v'.flatMap escB ++ 34 :: r' → v = v' ∧ r = r'
  | [], [], r, r', h => ⟨rfl, (List.cons.inj h).2⟩
  | [], c :: t, r, r', h => by
    exfalso
    rw [List.flatMap_cons, List.append_assoc] at h
    by_cases hc : UInt8.toNat c = 34 ∨ UInt8.toNat c = 92
    · rw [escB_sp hc] at h
      have := (List.cons.inj h).1
      revert this; decide
    · rw [escB_no hc] at h
      have := (List.cons.inj h).1
      exact hc (.inl (by rw [← this]; rfl))
  | c :: t, [], r, r', h => by
    exfalso
    rw [List.flatMap_cons, List.append_assoc] at h
    by_cases hc : UInt8.toNat c = 34 ∨ UInt8.toNat c = 92
    · rw [escB_sp hc] at h
      have := (List.cons.inj h).1
      revert this; decide
    · rw [escB_no hc] at h
      have := (List.cons.inj h).1
      exact hc (.inl (by rw [this]; rfl))
  | c :: t, c' :: t', r, r', h => by
    rw [List.flatMap_cons, List.flatMap_cons, List.append_assoc, List.append_assoc] at h
    by_cases hc : UInt8.toNat c = 34 ∨ UInt8.toNat c = 92
    · by_cases hc' : UInt8.toNat c' = 34 ∨ UInt8.toNat c' = 92
      · rw [escB_sp hc, escB_sp hc'] at h
        obtain ⟨e, h⟩ := List.cons.inj (List.cons.inj h).2
        obtain ⟨e1, e2⟩ := esc_inj t t' r r' h
        exact ⟨by rw [e, e1], e2⟩
      · rw [escB_sp hc, escB_no hc'] at h
        have := (List.cons.inj h).1
        exact absurd (.inr (by rw [← this]; rfl)) hc'
    · by_cases hc' : UInt8.toNat c' = 34 ∨ UInt8.toNat c' = 92
      · rw [escB_no hc, escB_sp hc'] at h
        have := (List.cons.inj h).1
        exact absurd (.inr (by rw [this]; rfl)) hc
      · rw [escB_no hc, escB_no hc'] at h
        obtain ⟨e, h⟩ := List.cons.inj h
        obtain ⟨e1, e2⟩ := esc_inj t t' r r' h
        exact ⟨by rw [e, e1], e2⟩
theorem quote_app (v r : Q4) : quoteG v ++ r = 34 :: (v.flatMap escB ++ 34 :: r) := by unfold quoteG; simp
theorem quote_inj {v v' r r' : Q4} (h : quoteG v ++ r = quoteG v' ++ r') : v = v' ∧ r = r' := by
  rw [quote_app, quote_app] at h
  exact esc_inj v v' r r' (List.cons.inj h).2
theorem name_inj : ∀ (n n' : Q4) {c c' : UInt8} {r r' : Q4}, n.all innerB = true → n'.all innerB = true → innerB c = false → innerB c' = false → n ++ c :: r = n' ++ c' :: r' → n = n' ∧ c :: r = c' :: r'
  | [], [], c, c', r, r', _, _, _, _, h => ⟨rfl, h⟩
  | [], b :: n', c, c', r, r', _, h2, h3, _, h => by
    have := (List.cons.inj h).1
    rw [List.all_cons, Bool.and_eq_true] at h2
    rw [this, h2.1] at h3; cases h3
  | a :: n, [], c, c', r, r', h1, _, _, h4, h => by
    have := (List.cons.inj h).1
    rw [List.all_cons, Bool.and_eq_true] at h1
    rw [← this, h1.1] at h4; cases h4
  | a :: n, b :: n', c, c', r, r', h1, h2, h3, h4, h => by
    rw [List.all_cons, Bool.and_eq_true] at h1 h2
    obtain ⟨e, h⟩ := List.cons.inj h
    obtain ⟨e1, e2⟩ := name_inj n n' h1.2 h2.2 h3 h4 h
    exact ⟨by rw [e, e1], e2⟩
theorem word_inner {n : Q4} (h : wordG n = true) : n.all innerB = true ∧ ∃ a t, n = a :: t ∧ innerB a = true := by
  unfold wordG at h
  simp only [Bool.and_eq_true, decide_eq_true_eq] at h
  refine ⟨h.2, ?_⟩
  cases n with
  | nil => simp at h
  | cons a t => rw [List.all_cons, Bool.and_eq_true] at h; exact ⟨a, t, rfl, h.2.1⟩
def tailJ {α : Type} (it : α → Q4) (xs : List α) (r : Q4) : Q4 := Lib.join (xs.map it) [44] ++ 125 :: r
theorem tailJ_one {α : Type} (it : α → Q4) (a : α) (r : Q4) : tailJ it [a] r = it a ++ 125 :: r := by
  unfold tailJ Lib.join; simp [List.intercalate]
theorem tailJ_two {α : Type} (it : α → Q4) (a b : α) (l : List α) (r : Q4) : tailJ it (a :: b :: l) r = it a ++ 44 :: tailJ it (b :: l) r := by
  unfold tailJ Lib.join; simp [List.intercalate]
theorem tailJ_nil {α : Type} (it : α → Q4) (r : Q4) : tailJ it [] r = 125 :: r := rfl
theorem join_inj {α : Type} (it : α → Q4) (ok : α → Prop) (pf : ∀ x y r r', ok x → ok y → it x ++ r = it y ++ r' → x = y ∧ r = r') (hd : ∀ x, ok x → ∃ a t, it x = a :: t ∧ innerB a = true) :
    ∀ (xs ys : List α) (r r' : Q4), (∀ x ∈ xs, ok x) → (∀ y ∈ ys, ok y) → tailJ it xs r = tailJ it ys r' → xs = ys ∧ r = r'
  | [], [], r, r', _, _, h => ⟨rfl, (List.cons.inj h).2⟩
  | [], y :: ys, r, r', _, h2, h => by
    exfalso
    obtain ⟨a, t, e, ha⟩ := hd y (h2 y (List.mem_cons_self ..))
    have : ∃ q, tailJ it (y :: ys) r' = a :: q := by
      cases ys with
      | nil => exact ⟨_, by rw [tailJ_one, e]; rfl⟩
      | cons b l => exact ⟨_, by rw [tailJ_two, e]; rfl⟩
    obtain ⟨q, hq⟩ := this
    rw [tailJ_nil, hq] at h
    rw [← (List.cons.inj h).1] at ha
    revert ha; decide
  | x :: xs, [], r, r', h1, _, h => by
    exfalso
    obtain ⟨a, t, e, ha⟩ := hd x (h1 x (List.mem_cons_self ..))
    have : ∃ q, tailJ it (x :: xs) r = a :: q := by
      cases xs with
      | nil => exact ⟨_, by rw [tailJ_one, e]; rfl⟩
      | cons b l => exact ⟨_, by rw [tailJ_two, e]; rfl⟩
    obtain ⟨q, hq⟩ := this
    rw [tailJ_nil, hq] at h
    rw [(List.cons.inj h).1] at ha
    revert ha; decide
  | [x], [y], r, r', h1, h2, h => by
    rw [tailJ_one, tailJ_one] at h
    obtain ⟨e1, e2⟩ := pf _ _ _ _ (h1 x (List.mem_cons_self ..)) (h2 y (List.mem_cons_self ..)) h
    exact ⟨by rw [e1], (List.cons.inj e2).2⟩
  | [x], y :: b :: ys, r, r', h1, h2, h => by
    rw [tailJ_one, tailJ_two] at h
    obtain ⟨e1, e2⟩ := pf _ _ _ _ (h1 x (List.mem_cons_self ..)) (h2 y (List.mem_cons_self ..)) h
    have := (List.cons.inj e2).1
    exfalso; revert this; decide
  | x :: b :: xs, [y], r, r', h1, h2, h => by
    rw [tailJ_one, tailJ_two] at h
    obtain ⟨e1, e2⟩ := pf _ _ _ _ (h1 x (List.mem_cons_self ..)) (h2 y (List.mem_cons_self ..)) h
    have := (List.cons.inj e2).1
    exfalso; revert this; decide
  | x :: b :: xs, y :: b' :: ys, r, r', h1, h2, h => by
    rw [tailJ_two, tailJ_two] at h
    obtain ⟨e1, e2⟩ := pf _ _ _ _ (h1 x (List.mem_cons_self ..)) (h2 y (List.mem_cons_self ..)) h
    obtain ⟨e3, e4⟩ := join_inj it ok pf hd (b :: xs) (b' :: ys) r r' (fun z hz => h1 z (List.mem_cons_of_mem _ hz)) (fun z hz => h2 z (List.mem_cons_of_mem _ hz)) (List.cons.inj e2).2
    exact ⟨by rw [e1, e3], e4⟩
theorem litem_pf (x y : (Q4) × (Q4)) (r r' : Q4) (hx : wordG x.1 = true) (hy : wordG y.1 = true) (h : litemG x ++ r = litemG y ++ r') : x = y ∧ r = r' := by
  unfold litemG at h
  simp only [List.append_assoc, List.cons_append, List.nil_append] at h
  obtain ⟨e1, e2⟩ := name_inj _ _ (word_inner hx).1 (word_inner hy).1 (by decide) (by decide) h
  obtain ⟨e3, e4⟩ := quote_inj (List.cons.inj e2).2
  exact ⟨Prod.ext e1 e3, e4⟩
theorem litem_hd (x : (Q4) × (Q4)) (hx : wordG x.1 = true) : ∃ a t, litemG x = a :: t ∧ innerB a = true := by
  obtain ⟨a, t, e, ha⟩ := (word_inner hx).2
  exact ⟨a, _, by unfold litemG; rw [e]; rfl, ha⟩
theorem lprint_eq {l : LB} (h : lrightG l = true) : lprintG l = 123 :: tailJ litemG l [] := by
  unfold lprintG tailJ; rw [if_pos h]; rfl
theorem lright_words {l : LB} (h : lrightG l = true) : ∀ x ∈ l, wordG x.1 = true := by
  intro x hx
  unfold lrightG at h
  rw [Bool.and_eq_true, Bool.and_eq_true] at h
  have := List.all_eq_true.1 h.1.1 x hx
  unfold lab1 at this
  rw [Bool.and_eq_true, Bool.and_eq_true] at this
  exact this.1.1
theorem lprint_inj {x y : LB} (hx : lrightG x = true) (hy : lrightG y = true) (h : lprintG x = lprintG y) : x = y := by
  rw [lprint_eq hx, lprint_eq hy] at h
  exact (join_inj litemG (fun x => wordG x.1 = true) litem_pf litem_hd x y [] [] (lright_words hx) (lright_words hy) (List.cons.inj h).2).1
theorem cmp_neg : ∀ a b : Q4, Lib.compareBytes a b = - Lib.compareBytes b a
  | [], [] => rfl
  | [], _ :: _ => rfl
  | _ :: _, [] => rfl
  | a :: x, b :: y => by
    rw [Lib.compareBytes, Lib.compareBytes]
    by_cases h1 : a < b
    · have h2 : ¬ b < a := fun h => by rw [UInt8.lt_iff_toNat_lt] at h1 h; omega
      rw [if_pos h1, if_neg h2, if_pos h1]
    · by_cases h2 : b < a
      · rw [if_neg h1, if_pos h2, if_pos h2]; rfl
      · rw [if_neg h1, if_neg h2, if_neg h2, if_neg h1]; exact cmp_neg x y
theorem cmp_zero : ∀ a b : Q4, Lib.compareBytes a b = 0 ↔ a = b
  | [], [] => by simp [Lib.compareBytes]
  | [], _ :: _ => by simp [Lib.compareBytes]
  | _ :: _, [] => by simp [Lib.compareBytes]
  | a :: x, b :: y => by
    rw [Lib.compareBytes]
    by_cases h1 : a < b
    · rw [if_pos h1]
      constructor
      · intro h; omega
      · intro h; rw [(List.cons.inj h).1, UInt8.lt_iff_toNat_lt] at h1; omega
    · by_cases h2 : b < a
      · rw [if_neg h1, if_pos h2]
        constructor
        · intro h; omega
        · intro h; rw [(List.cons.inj h).1, UInt8.lt_iff_toNat_lt] at h2; omega
      · rw [if_neg h1, if_neg h2, cmp_zero x y]
        have : a = b := by
          rw [UInt8.lt_iff_toNat_lt] at h1 h2
          exact UInt8.toNat_inj.1 (by omega)
        rw [this]
        simp
theorem cmp_in : ∀ a b : Q4, -1 ≤ Lib.compareBytes a b ∧ Lib.compareBytes a b ≤ 1
  | [], [] => by decide
  | [], _ :: _ => by simp [Lib.compareBytes]
  | _ :: _, [] => by simp [Lib.compareBytes]
  | a :: x, b :: y => by
    rw [Lib.compareBytes]
    split
    · omega
    · split
      · omega
      · exact cmp_in x y

theorem cmp_trans : ∀ a b c : Q4, Lib.compareBytes a b < 0 → Lib.compareBytes b c < 0 → Lib.compareBytes a c < 0
  | [], [], _, h, _ => by simp [Lib.compareBytes] at h
  | [], _ :: _, [], _, h => by simp [Lib.compareBytes] at h
  | [], _ :: _, _ :: _, _, _ => by simp [Lib.compareBytes]
  | _ :: _, [], _, h, _ => by simp [Lib.compareBytes] at h
  | _ :: _, _ :: _, [], _, h => by simp [Lib.compareBytes] at h
  | x :: a, y :: b, z :: c, h1, h2 => by
    rw [Lib.compareBytes] at h1 h2 ⊢
    by_cases p1 : x < y
    · by_cases p2 : y < z
      · rw [if_pos (UInt8.lt_trans p1 p2)]; omega
      · rw [if_neg p2] at h2
        by_cases p3 : z < y
        · rw [if_pos p3] at h2; omega
        · have : y = z := UInt8.le_antisymm (UInt8.not_lt.1 p3) (UInt8.not_lt.1 p2)
          subst this
          rw [if_pos p1]; omega
    · rw [if_neg p1] at h1
      by_cases p3 : y < x
      · rw [if_pos p3] at h1; omega
      · have : x = y := UInt8.le_antisymm (UInt8.not_lt.1 p3) (UInt8.not_lt.1 p1)
        subst this
        rw [if_neg p3] at h1
        by_cases p2 : x < z
        · rw [if_pos p2]; omega
        · rw [if_neg p2] at h2 ⊢
          by_cases p4 : z < x
          · rw [if_pos p4] at h2; omega
          · rw [if_neg p4] at h2 ⊢
            exact cmp_trans a b c h1 h2
theorem ltP_trans {a b c : PT1} (h1 : ltP a b = true) (h2 : ltP b c = true) : ltP a c = true := decide_eq_true (cmp_trans _ _ _ (of_decide_eq_true h1) (of_decide_eq_true h2))
theorem ltP_asymm {a b : PT1} (h1 : ltP a b = true) (h2 : ltP b a = true) : False := by
  have g1 : Lib.compareBytes (lprintG a.1) (lprintG b.1) < 0 := of_decide_eq_true h1
  have g2 : Lib.compareBytes (lprintG b.1) (lprintG a.1) < 0 := of_decide_eq_true h2
  have := cmp_neg (lprintG a.1) (lprintG b.1)
  omega
theorem ltP_total {a b : PT1} (h : lprintG a.1 ≠ lprintG b.1) (h1 : ¬ ltP a b = true) : ltP b a = true := by
  have g1 : ¬ Lib.compareBytes (lprintG a.1) (lprintG b.1) < 0 := fun q => h1 (decide_eq_true q)
  have g2 : Lib.compareBytes (lprintG a.1) (lprintG b.1) ≠ 0 := fun q => h ((cmp_zero _ _).1 q)
  have := cmp_neg (lprintG a.1) (lprintG b.1)
  exact decide_eq_true (by omega)
theorem perm_insR (x : PT1) : ∀ r : VL, (insR x r).Perm (x :: r)
  | [] => List.Perm.refl _
  | y :: r => by
    rw [insR]
    split
    · exact ((perm_insR x r).cons y).trans (List.Perm.swap x y r)
    · exact List.Perm.refl _
theorem perm_foldR : ∀ (l acc : VL), (foldR acc l).Perm (acc ++ l)
  | [], acc => by show acc.Perm (acc ++ []); rw [List.append_nil]
  | x :: l, acc => by
    show (foldR (insR x acc) l).Perm _
    exact (perm_foldR l (insR x acc)).trans (((perm_insR x acc).append_right l).trans List.perm_middle.symm)
theorem perm_sort (l : VL) : (sortG l).Perm l := by
  unfold sortG
  exact (List.reverse_perm _).trans (perm_foldR l [])
def DG (l : VL) : Prop := l.Pairwise fun p q => lprintG p.1 ≠ lprintG q.1
theorem DG_perm {a b : VL} (h : a.Perm b) (hd : DG a) : DG b := (h.pairwise_iff (R := fun p q : PT1 => lprintG p.1 ≠ lprintG q.1) (fun h => h.symm)).1 hd
theorem sorted_insR (x : PT1) : ∀ r : VL, r.Pairwise (fun p q => ltP q p = true) → (∀ p ∈ r, lprintG x.1 ≠ lprintG p.1) → (insR x r).Pairwise (fun p q => ltP q p = true)
  | [], _, _ => List.pairwise_singleton _ _
  | y :: r, h, hn => by
    have hp := List.pairwise_cons.1 h
    rw [insR]
    by_cases hc : ltP x y = true
    · rw [if_pos hc]
      refine List.pairwise_cons.2 ⟨fun p q => ?_, sorted_insR x r hp.2 fun p q => hn p (List.mem_cons_of_mem _ q)⟩
      rcases (mem_insR x p r).1 q with rfl | q
      · exact hc
      · exact hp.1 p q
    · rw [if_neg hc]
      have hyx : ltP y x = true := ltP_total (hn y (List.mem_cons_self ..)) hc
      refine List.pairwise_cons.2 ⟨fun p q => ?_, h⟩
      rcases List.mem_cons.1 q with rfl | q
      · exact hyx
      · exact ltP_trans (hp.1 p q) hyx
theorem sorted_foldR : ∀ (l acc : VL), acc.Pairwise (fun p q => ltP q p = true) → DG (acc ++ l) → (foldR acc l).Pairwise (fun p q => ltP q p = true)
  | [], acc, h, _ => h
  | x :: l, acc, h, hd => by
    show (foldR (insR x acc) l).Pairwise _
    have hp := List.pairwise_append.1 hd
    refine sorted_foldR l (insR x acc) (sorted_insR x acc h fun p q => (hp.2.2 p q x (List.mem_cons_self ..)).symm) ?_
    exact DG_perm (List.perm_middle.trans ((perm_insR x acc).symm.append_right l)) hd
theorem sorted_sort {l : VL} (h : DG l) : (sortG l).Pairwise (fun p q => ltP p q = true) := by
  unfold sortG
  rw [List.pairwise_reverse]
  exact sorted_foldR l [] List.Pairwise.nil h
theorem sorted_eq : ∀ (a b : VL), a.Pairwise (fun p q => ltP p q = true) → b.Pairwise (fun p q => ltP p q = true) → (∀ p, p ∈ a ↔ p ∈ b) → a = b
  | [], [], _, _, _ => rfl
  | [], y :: b, _, _, h => by have := (h y).2 (List.mem_cons_self ..); simp at this
  | x :: a, [], _, _, h => by have := (h x).1 (List.mem_cons_self ..); simp at this
  | x :: a, y :: b, h1, h2, h => by
    have p1 := List.pairwise_cons.1 h1
    have p2 := List.pairwise_cons.1 h2
    have e : x = y := by
      rcases List.mem_cons.1 ((h x).1 (List.mem_cons_self ..)) with q | q
      · exact q
      · rcases List.mem_cons.1 ((h y).2 (List.mem_cons_self ..)) with r | r
        · exact r.symm
        · exact (ltP_asymm (p1.1 y r) (p2.1 x q)).elim
    subst e
    rw [sorted_eq a b p1.2 p2.2 fun p => ?_]
    constructor
    · intro q
      rcases List.mem_cons.1 ((h p).1 (List.mem_cons_of_mem _ q)) with r | r
      · subst r; exact (ltP_asymm (p1.1 p q) (p1.1 p q)).elim
      · exact r
    · intro q
      rcases List.mem_cons.1 ((h p).2 (List.mem_cons_of_mem _ q)) with r | r
      · subst r; exact (ltP_asymm (p2.1 p q) (p2.1 p q)).elim
      · exact r
theorem sort_perm {a b : VL} (h : a.Perm b) (hd : DG a) : sortG a = sortG b :=
  sorted_eq _ _ (sorted_sort hd) (sorted_sort (DG_perm h hd)) fun p => ((perm_sort a).trans (h.trans (perm_sort b).symm)).mem_iff
theorem sort_sort {a : VL} (hd : DG a) : sortG (sortG a) = sortG a := sort_perm (perm_sort a) (DG_perm (perm_sort a).symm hd)
def KG (l : VL) : Prop := l.Pairwise fun p q => pkeyG p ≠ pkeyG q
theorem KG_perm {a b : VL} (h : a.Perm b) (hd : KG a) : KG b := (h.pairwise_iff (R := fun p q : PT1 => pkeyG p ≠ pkeyG q) (fun h => h.symm)).1 hd
theorem twiceFrom_iff : ∀ (l pre : VL), twiceFrom pre l = false ↔ (∀ p ∈ pre, ∀ q ∈ l, pkeyG p ≠ pkeyG q) ∧ KG l
  | [], pre => by
    constructor
    · intro _; exact ⟨fun p _ q h => by simp at h, List.Pairwise.nil⟩
    · intro _; rfl
  | x :: r, pre => by
    rw [twiceFrom, Bool.or_eq_false_iff, twiceFrom_iff r (pre ++ [x]), List.any_eq_false]
    constructor
    · rintro ⟨h1, h2, h3⟩
      refine ⟨fun p hp q hq => ?_, List.pairwise_cons.2 ⟨fun q hq => h2 x (List.mem_append_right _ (List.mem_singleton.2 rfl)) q hq, h3⟩⟩
      rcases List.mem_cons.1 hq with rfl | hq
      · have := h1 p hp
        simpa using this
      · exact h2 p (List.mem_append_left _ hp) q hq
    · rintro ⟨h1, h2⟩
      have hp := List.pairwise_cons.1 h2
      refine ⟨fun p q => by simpa using h1 p q x (List.mem_cons_self ..), fun p q => ?_, hp.2⟩
      rcases List.mem_append.1 q with q | q
      · exact fun y hy => h1 p q y (List.mem_cons_of_mem _ hy)
      · rw [List.mem_singleton.1 q]; exact hp.1
theorem twice_iff (l : VL) : twiceG l = false ↔ KG l := by
  unfold twiceG
  rw [twiceFrom_iff]
  constructor
  · exact fun h => h.2
  · exact fun h => ⟨fun p q => by simp at q, h⟩
theorem has_mem {l : VL} {p : PT1} (h : p ∈ l) : hasK l (pkeyG p) = true := List.any_eq_true.2 ⟨p, h, by simp⟩
theorem has_perm {a b : VL} (h : a.Perm b) (k : LB) : hasK a k = hasK b k := by
  rw [Bool.eq_iff_iff]
  unfold hasK
  rw [List.any_eq_true, List.any_eq_true]
  constructor
  · rintro ⟨p, h1, h2⟩; exact ⟨p, h.mem_iff.1 h1, h2⟩
  · rintro ⟨p, h1, h2⟩; exact ⟨p, h.mem_iff.2 h1, h2⟩
theorem filter_split {c1 c2 h : PT1 → Bool} (hc : ∀ p, (c1 p = (h p && c1 p)) ∧ c2 p = (h p && !c1 p)) (l : VL) : (l.filter c1 ++ l.filter c2).Perm (l.filter h) := by
  have e1 : l.filter c1 = (l.filter h).filter c1 := by
    rw [List.filter_filter]
    congr 1
    funext p
    have := (hc p).1
    conv => lhs; rw [this]
    exact Bool.and_comm ..
  have e2 : l.filter c2 = (l.filter h).filter (fun p => !c1 p) := by
    rw [List.filter_filter]
    congr 1
    funext p
    rw [(hc p).2, Bool.and_comm]
  rw [e1, e2]
  exact List.filter_append_perm c1 (l.filter h)
theorem D_of {l : VL} (h1 : ∀ p ∈ l, PG p) (h2 : l.Pairwise (fun p q => p.1 ≠ q.1)) : DG l :=
  h2.imp_of_mem fun ha hb hne he => hne (lprint_inj (h1 _ ha).1 (h1 _ hb).1 he)
theorem pre_of {l : VL} (h1 : l.length < 20) (h2 : ∀ p ∈ l, PG p) : sortPre l = true := decide_eq_true ⟨h1, fun p hp => set4_pre (h2 p hp).1⟩

end Go.Proofs.YtahdcmicifokgaaDoor.Dec
