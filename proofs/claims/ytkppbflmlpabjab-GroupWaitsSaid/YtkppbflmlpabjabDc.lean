/- Tick. -/
import Derived.Test.YtkppbflmlpabjabDb
import Derived.KernelRfl
namespace Go.Proofs.Ytkppbflmlpabjab.Dec
open Go.Ev
set_option linter.unusedVariables false
set_option linter.unusedSimpArgs false
set_option maxRecDepth 100000
noncomputable def fn16 : AFn := (F 16).getD ⟨0, [], .bad, false, false, noHd⟩
noncomputable def body16 : AC := fn16.body
def p16 (m : Nat) (x0 : (Int × Int × Int) × Bool × Int × Bool × (List (List UInt8)) × Int) (x1 : Int) (x2 : List (List UInt8)) : Option ((List (List UInt8)) × Bool × ((Int × Int × Int) × Bool × Int × Bool × (List (List UInt8)) × Int)) :=
  if x0.2.1 = true then
    if decide (x1 < x0.2.2.1) = true then
      some (([] : List (List UInt8)), false, x0)
    else
      if ((((List.length x2) : Nat) : Int) == (0)) = true then
        some (([] : List (List UInt8)), x0.2.2.2.1, (x0.1, (false, ((0), (false, (([] : List (List UInt8)), (0)))))))
      else
        if x0.2.2.2.1 = true then
          if decide (List.length x2 < 4611686018427387904) = true then
            if ((show List (List UInt8) from x2) == x0.2.2.2.2.1) = true then
              if decide ((IntKind.wrap .i64 (x1 - x0.2.2.2.2.2)) ≥ x0.1.2.2) = true then
                if decide ((List.length x2 * 16) ≤ 70368744177664) = true then
                  some (x2, true, (x0.1, (x0.2.1, ((IntKind.wrap .i64 (x1 + x0.1.2.1)), (true, (x2, x1))))))
                else
                  none
              else
                some (([] : List (List UInt8)), false, (x0.1, (x0.2.1, ((IntKind.wrap .i64 (x1 + x0.1.2.1)), x0.2.2.2))))
            else
              if decide ((List.length x2 * 16) ≤ 70368744177664) = true then
                some (x2, true, (x0.1, (x0.2.1, ((IntKind.wrap .i64 (x1 + x0.1.2.1)), (true, (x2, x1))))))
              else
                none
          else
            none
        else
          if decide ((List.length x2 * 16) ≤ 70368744177664) = true then
            some (x2, true, (x0.1, (x0.2.1, ((IntKind.wrap .i64 (x1 + x0.1.2.1)), (true, (x2, x1))))))
          else
            none
  else
    if ((((List.length x2) : Nat) : Int) == (0)) = true then
      some (([] : List (List UInt8)), false, x0)
    else
      if decide (x1 < (IntKind.wrap .i64 (x1 + x0.1.1))) = true then
        some (([] : List (List UInt8)), false, (x0.1, (true, ((IntKind.wrap .i64 (x1 + x0.1.1)), (false, (([] : List (List UInt8)), (0)))))))
      else
        if decide ((List.length x2 * 16) ≤ 70368744177664) = true then
          some (x2, true, (x0.1, (true, ((IntKind.wrap .i64 (x1 + x0.1.2.1)), (true, (x2, x1))))))
        else
          none
set_option maxHeartbeats 20000000 in
theorem p16_ok (m : Nat) (x0 : (Int × Int × Int) × Bool × Int × Bool × (List (List UInt8)) × Int) (x1 : Int) (x2 : List (List UInt8)) (q : (List (List UInt8)) × Bool × ((Int × Int × Int) × Bool × Int × Bool × (List (List UInt8)) × Int)) (h : p16 m x0 x1 x2 = some q) : ∃ r B1, (evCall F S3 (m + 25) 16 [(.ptr 0 0), (.d (.int .i64 x1)), (.d (.sl .str x2))] [(.cells [(.d (.int .i64 x0.1.1)), (.d (.int .i64 x0.1.2.1)), (.d (.int .i64 x0.1.2.2)), (.d (.bool (x0.2.1))), (.d (.int .i64 x0.2.2.1)), (.d (.bool (x0.2.2.2.1))), (.d (.sl .str x0.2.2.2.2.1)), (.d (.int .i64 x0.2.2.2.2.2))])]).run = some (r, B1) ∧ 1 ≤ B1.length ∧ wkR B1 [(.cells [(.d (.int .i64 q.2.2.1.1)), (.d (.int .i64 q.2.2.1.2.1)), (.d (.int .i64 q.2.2.1.2.2)), (.d (.bool (q.2.2.2.1))), (.d (.int .i64 q.2.2.2.2.1)), (.d (.bool (q.2.2.2.2.2.1))), (.d (.sl .str q.2.2.2.2.2.2.1)), (.d (.int .i64 q.2.2.2.2.2.2.2))])] r (.tup [(.d (.sl .str q.1)), (.d (.bool (q.2.1)))]) ∧ wkBs B1 [(.cells [(.d (.int .i64 q.2.2.1.1)), (.d (.int .i64 q.2.2.1.2.1)), (.d (.int .i64 q.2.2.1.2.2)), (.d (.bool (q.2.2.2.1))), (.d (.int .i64 q.2.2.2.2.1)), (.d (.bool (q.2.2.2.2.2.1))), (.d (.sl .str q.2.2.2.2.2.2.1)), (.d (.int .i64 q.2.2.2.2.2.2.2))])] 0 [(.cells [(.d (.int .i64 q.2.2.1.1)), (.d (.int .i64 q.2.2.1.2.1)), (.d (.int .i64 q.2.2.1.2.2)), (.d (.bool (q.2.2.2.1))), (.d (.int .i64 q.2.2.2.2.1)), (.d (.bool (q.2.2.2.2.2.1))), (.d (.sl .str q.2.2.2.2.2.2.1)), (.d (.int .i64 q.2.2.2.2.2.2.2))])] := by
  unfold p16 at h
  refine ite_cases h (fun c0 h => ?_) (fun c0 h => ?_)
  · skip
    refine ite_cases h (fun c1 h => ?_) (fun c1 h => ?_)
    · skip
      cases h
      refine ⟨(.tup [(.d (.sl .str ([] : List (List UInt8)))), (.d (.bool false))]), [(.cells [(.d (.int .i64 x0.1.1)), (.d (.int .i64 x0.1.2.1)), (.d (.int .i64 x0.1.2.2)), (.d (.bool (x0.2.1))), (.d (.int .i64 x0.2.2.1)), (.d (.bool (x0.2.2.2.1))), (.d (.sl .str x0.2.2.2.2.1)), (.d (.int .i64 x0.2.2.2.2.2))])], runT_ok (LS := (fun k => none)) (fn := fn16) (vis := []) (by kernel_rfl) rfl (by kernel_rfl) (M.run_of_path _ [false, true, true] _ _ (by kernel_rfl) (all_nt c0 (all_t c1 (all_t rfl all_nil)))) ?_, by simp, (wkR.tup (wkVs.cons (wkV.one (wk1.eq rfl)) (wkVs.cons (wkV.one (wk1.eq rfl)) wkVs.nil))), ⟨wkBox.cells (wkL.cons (wk1.eq rfl) (wkL.cons (wk1.eq rfl) (wkL.cons (wk1.eq rfl) (wkL.cons (wk1.eq rfl) (wkL.cons (wk1.eq rfl) (wkL.cons (wk1.eq rfl) (wkL.cons (wk1.eq rfl) (wkL.cons (wk1.eq rfl) wkL.nil)))))))), trivial⟩⟩
      intro p hp; cases hp
    · skip
      refine ite_cases h (fun c2 h => ?_) (fun c2 h => ?_)
      · skip
        cases h
        refine ⟨(.tup [(.d (.sl .str ([] : List (List UInt8)))), (.d (.bool (x0.2.2.2.1)))]), [(.cells [(.d (.int .i64 x0.1.1)), (.d (.int .i64 x0.1.2.1)), (.d (.int .i64 x0.1.2.2)), (.d (.bool false)), (.d (.int .i64 (0))), (.d (.bool false)), (.d .nils), (.d (.int .i64 (0)))])], runT_ok (LS := (fun k => none)) (fn := fn16) (vis := []) (by kernel_rfl) rfl (by kernel_rfl) (M.run_of_path _ [false, false, true, true] _ _ (by kernel_rfl) (all_nt c0 (all_f c1 (all_t c2 (all_t rfl all_nil))))) ?_, by simp, (wkR.tup (wkVs.cons (wkV.one (wk1.eq rfl)) (wkVs.cons (wkV.one (wk1.eq rfl)) wkVs.nil))), ⟨wkBox.cells (wkL.cons (wk1.eq rfl) (wkL.cons (wk1.eq rfl) (wkL.cons (wk1.eq rfl) (wkL.cons (wk1.eq rfl) (wkL.cons (wk1.eq rfl) (wkL.cons (wk1.eq rfl) (wkL.cons wk1.nil (wkL.cons (wk1.eq rfl) wkL.nil)))))))), trivial⟩⟩
        intro p hp; cases hp
      · skip
        refine ite_cases h (fun c3 h => ?_) (fun c3 h => ?_)
        · skip
          refine ite_cases h (fun c9 h => ?_) (fun c9 h => ?_)
          · skip
            refine ite_cases h (fun c12 h => ?_) (fun c12 h => ?_)
            · skip
              refine ite_cases h (fun c25 h => ?_) (fun c25 h => ?_)
              · skip
                refine ite_cases h (fun c26 h => ?_) (fun c26 h => ?_)
                · skip
                  cases h
                  refine ⟨(.tup [(.d (.sl .str x2)), (.d (.bool true))]), [(.cells [(.d (.int .i64 x0.1.1)), (.d (.int .i64 x0.1.2.1)), (.d (.int .i64 x0.1.2.2)), (.d (.bool (x0.2.1))), (.d (.int .i64 (IntKind.wrap .i64 (x1 + x0.1.2.1)))), (.d (.bool true)), (.d (.sl .str x2)), (.d (.int .i64 x1))])], runT_ok (LS := (fun k => none)) (fn := fn16) (vis := []) (by kernel_rfl) rfl (by kernel_rfl) (M.run_of_path _ [false, false, false, false, false, false, false, false, false, true, false, false, false, false, false, false, false, false, false, false, false, false, false, false, false, true, true, true] _ _ (by kernel_rfl) (all_nt c0 (all_f c1 (all_f c2 (all_nt c3 (all_nt c3 (all_nt c3 (all_nt c3 (all_nt c3 (all_nt c3 (all_t c9 (all_nt c3 (all_nt c3 (all_nt c12 (all_nt c12 (all_nt c12 (all_nt c12 (all_nt c12 (all_nt c12 (all_nt c12 (all_nt c12 (all_nt c12 (all_nt c12 (all_nt c12 (all_nt c12 (all_nt c12 (all_t c25 (all_t c26 (all_t c26 all_nil))))))))))))))))))))))))))))) ?_, by simp, (wkR.tup (wkVs.cons (wkV.one (wk1.eq rfl)) (wkVs.cons (wkV.one (wk1.eq rfl)) wkVs.nil))), ⟨wkBox.cells (wkL.cons (wk1.eq rfl) (wkL.cons (wk1.eq rfl) (wkL.cons (wk1.eq rfl) (wkL.cons (wk1.eq rfl) (wkL.cons (wk1.eq rfl) (wkL.cons (wk1.eq rfl) (wkL.cons (wk1.eq rfl) (wkL.cons (wk1.eq rfl) wkL.nil)))))))), trivial⟩⟩
                  intro p hp; cases hp
                · skip
                  cases h
              · skip
                cases h
                refine ⟨(.tup [(.d (.sl .str ([] : List (List UInt8)))), (.d (.bool false))]), [(.cells [(.d (.int .i64 x0.1.1)), (.d (.int .i64 x0.1.2.1)), (.d (.int .i64 x0.1.2.2)), (.d (.bool (x0.2.1))), (.d (.int .i64 (IntKind.wrap .i64 (x1 + x0.1.2.1)))), (.d (.bool (x0.2.2.2.1))), (.d (.sl .str x0.2.2.2.2.1)), (.d (.int .i64 x0.2.2.2.2.2))])], runT_ok (LS := (fun k => none)) (fn := fn16) (vis := []) (by kernel_rfl) rfl (by kernel_rfl) (M.run_of_path _ [false, false, false, false, false, false, false, false, false, true, false, false, false, false, false, false, false, false, false, false, false, false, false, false, false, false, true] _ _ (by kernel_rfl) (all_nt c0 (all_f c1 (all_f c2 (all_nt c3 (all_nt c3 (all_nt c3 (all_nt c3 (all_nt c3 (all_nt c3 (all_t c9 (all_nt c3 (all_nt c3 (all_nt c12 (all_nt c12 (all_nt c12 (all_nt c12 (all_nt c12 (all_nt c12 (all_nt c12 (all_nt c12 (all_nt c12 (all_nt c12 (all_nt c12 (all_nt c12 (all_nt c12 (all_f c25 (all_t rfl all_nil)))))))))))))))))))))))))))) ?_, by simp, (wkR.tup (wkVs.cons (wkV.one (wk1.eq rfl)) (wkVs.cons (wkV.one (wk1.eq rfl)) wkVs.nil))), ⟨wkBox.cells (wkL.cons (wk1.eq rfl) (wkL.cons (wk1.eq rfl) (wkL.cons (wk1.eq rfl) (wkL.cons (wk1.eq rfl) (wkL.cons (wk1.eq rfl) (wkL.cons (wk1.eq rfl) (wkL.cons (wk1.eq rfl) (wkL.cons (wk1.eq rfl) wkL.nil)))))))), trivial⟩⟩
                intro p hp; cases hp
            · skip
              refine ite_cases h (fun c26 h => ?_) (fun c26 h => ?_)
              · skip
                cases h
                refine ⟨(.tup [(.d (.sl .str x2)), (.d (.bool true))]), [(.cells [(.d (.int .i64 x0.1.1)), (.d (.int .i64 x0.1.2.1)), (.d (.int .i64 x0.1.2.2)), (.d (.bool (x0.2.1))), (.d (.int .i64 (IntKind.wrap .i64 (x1 + x0.1.2.1)))), (.d (.bool true)), (.d (.sl .str x2)), (.d (.int .i64 x1))])], runT_ok (LS := (fun k => none)) (fn := fn16) (vis := []) (by kernel_rfl) rfl (by kernel_rfl) (M.run_of_path _ [false, false, false, false, false, false, false, false, false, true, false, false, true, true, true, true, true, true, true, true, true, true, true, true, true, true, true, true] _ _ (by kernel_rfl) (all_nt c0 (all_f c1 (all_f c2 (all_nt c3 (all_nt c3 (all_nt c3 (all_nt c3 (all_nt c3 (all_nt c3 (all_t c9 (all_nt c3 (all_nt c3 (all_nf c12 (all_nf c12 (all_nf c12 (all_nf c12 (all_nf c12 (all_nf c12 (all_nf c12 (all_nf c12 (all_nf c12 (all_nf c12 (all_nf c12 (all_nf c12 (all_nf c12 (all_t rfl (all_t c26 (all_t c26 all_nil))))))))))))))))))))))))))))) ?_, by simp, (wkR.tup (wkVs.cons (wkV.one (wk1.eq rfl)) (wkVs.cons (wkV.one (wk1.eq rfl)) wkVs.nil))), ⟨wkBox.cells (wkL.cons (wk1.eq rfl) (wkL.cons (wk1.eq rfl) (wkL.cons (wk1.eq rfl) (wkL.cons (wk1.eq rfl) (wkL.cons (wk1.eq rfl) (wkL.cons (wk1.eq rfl) (wkL.cons (wk1.eq rfl) (wkL.cons (wk1.eq rfl) wkL.nil)))))))), trivial⟩⟩
                intro p hp; cases hp
              · skip
                cases h
          · skip
            cases h
        · skip
          refine ite_cases h (fun c25 h => ?_) (fun c25 h => ?_)
          · skip
            cases h
            refine ⟨(.tup [(.d (.sl .str x2)), (.d (.bool true))]), [(.cells [(.d (.int .i64 x0.1.1)), (.d (.int .i64 x0.1.2.1)), (.d (.int .i64 x0.1.2.2)), (.d (.bool (x0.2.1))), (.d (.int .i64 (IntKind.wrap .i64 (x1 + x0.1.2.1)))), (.d (.bool true)), (.d (.sl .str x2)), (.d (.int .i64 x1))])], runT_ok (LS := (fun k => none)) (fn := fn16) (vis := []) (by kernel_rfl) rfl (by kernel_rfl) (M.run_of_path _ [false, false, false, true, true, true, true, true, true, true, true, true, true, true, true, true, true, true, true, true, true, true, true, true, true, true, true] _ _ (by kernel_rfl) (all_nt c0 (all_f c1 (all_f c2 (all_nf c3 (all_nf c3 (all_nf c3 (all_nf c3 (all_nf c3 (all_nf c3 (all_nf c3 (all_nf c3 (all_t rfl (all_t rfl (all_t rfl (all_t rfl (all_t rfl (all_t rfl (all_t rfl (all_t rfl (all_t rfl (all_t rfl (all_t rfl (all_t rfl (all_t rfl (all_t rfl (all_t c25 (all_t c25 all_nil)))))))))))))))))))))))))))) ?_, by simp, (wkR.tup (wkVs.cons (wkV.one (wk1.eq rfl)) (wkVs.cons (wkV.one (wk1.eq rfl)) wkVs.nil))), ⟨wkBox.cells (wkL.cons (wk1.eq rfl) (wkL.cons (wk1.eq rfl) (wkL.cons (wk1.eq rfl) (wkL.cons (wk1.eq rfl) (wkL.cons (wk1.eq rfl) (wkL.cons (wk1.eq rfl) (wkL.cons (wk1.eq rfl) (wkL.cons (wk1.eq rfl) wkL.nil)))))))), trivial⟩⟩
            intro p hp; cases hp
          · skip
            cases h
  · skip
    refine ite_cases h (fun c1 h => ?_) (fun c1 h => ?_)
    · skip
      cases h
      refine ⟨(.tup [(.d (.sl .str ([] : List (List UInt8)))), (.d (.bool false))]), [(.cells [(.d (.int .i64 x0.1.1)), (.d (.int .i64 x0.1.2.1)), (.d (.int .i64 x0.1.2.2)), (.d (.bool (x0.2.1))), (.d (.int .i64 x0.2.2.1)), (.d (.bool (x0.2.2.2.1))), (.d (.sl .str x0.2.2.2.2.1)), (.d (.int .i64 x0.2.2.2.2.2))])], runT_ok (LS := (fun k => none)) (fn := fn16) (vis := []) (by kernel_rfl) rfl (by kernel_rfl) (M.run_of_path _ [true, true, true] _ _ (by kernel_rfl) (all_nf c0 (all_t c1 (all_t rfl all_nil)))) ?_, by simp, (wkR.tup (wkVs.cons (wkV.one (wk1.eq rfl)) (wkVs.cons (wkV.one (wk1.eq rfl)) wkVs.nil))), ⟨wkBox.cells (wkL.cons (wk1.eq rfl) (wkL.cons (wk1.eq rfl) (wkL.cons (wk1.eq rfl) (wkL.cons (wk1.eq rfl) (wkL.cons (wk1.eq rfl) (wkL.cons (wk1.eq rfl) (wkL.cons (wk1.eq rfl) (wkL.cons (wk1.eq rfl) wkL.nil)))))))), trivial⟩⟩
      intro p hp; cases hp
    · skip
      refine ite_cases h (fun c2 h => ?_) (fun c2 h => ?_)
      · skip
        cases h
        refine ⟨(.tup [(.d (.sl .str ([] : List (List UInt8)))), (.d (.bool false))]), [(.cells [(.d (.int .i64 x0.1.1)), (.d (.int .i64 x0.1.2.1)), (.d (.int .i64 x0.1.2.2)), (.d (.bool true)), (.d (.int .i64 (IntKind.wrap .i64 (x1 + x0.1.1)))), (.d (.bool false)), (.d .nils), (.d (.int .i64 (0)))])], runT_ok (LS := (fun k => none)) (fn := fn16) (vis := []) (by kernel_rfl) rfl (by kernel_rfl) (M.run_of_path _ [true, false, true, true] _ _ (by kernel_rfl) (all_nf c0 (all_f c1 (all_t c2 (all_t rfl all_nil))))) ?_, by simp, (wkR.tup (wkVs.cons (wkV.one (wk1.eq rfl)) (wkVs.cons (wkV.one (wk1.eq rfl)) wkVs.nil))), ⟨wkBox.cells (wkL.cons (wk1.eq rfl) (wkL.cons (wk1.eq rfl) (wkL.cons (wk1.eq rfl) (wkL.cons (wk1.eq rfl) (wkL.cons (wk1.eq rfl) (wkL.cons (wk1.eq rfl) (wkL.cons wk1.nil (wkL.cons (wk1.eq rfl) wkL.nil)))))))), trivial⟩⟩
        intro p hp; cases hp
      · skip
        refine ite_cases h (fun c26 h => ?_) (fun c26 h => ?_)
        · skip
          cases h
          refine ⟨(.tup [(.d (.sl .str x2)), (.d (.bool true))]), [(.cells [(.d (.int .i64 x0.1.1)), (.d (.int .i64 x0.1.2.1)), (.d (.int .i64 x0.1.2.2)), (.d (.bool true)), (.d (.int .i64 (IntKind.wrap .i64 (x1 + x0.1.2.1)))), (.d (.bool true)), (.d (.sl .str x2)), (.d (.int .i64 x1))])], runT_ok (LS := (fun k => none)) (fn := fn16) (vis := []) (by kernel_rfl) rfl (by kernel_rfl) (M.run_of_path _ [true, false, false, false, true, true, true, true, true, true, true, true, true, true, true, true, true, true, true, true, true, true, true, true, true, true, true, true] _ _ (by kernel_rfl) (all_nf c0 (all_f c1 (all_f c2 (all_f c1 (all_t rfl (all_t rfl (all_t rfl (all_t rfl (all_t rfl (all_t rfl (all_t rfl (all_t rfl (all_t rfl (all_t rfl (all_t rfl (all_t rfl (all_t rfl (all_t rfl (all_t rfl (all_t rfl (all_t rfl (all_t rfl (all_t rfl (all_t rfl (all_t rfl (all_t rfl (all_t c26 (all_t c26 all_nil))))))))))))))))))))))))))))) ?_, by simp, (wkR.tup (wkVs.cons (wkV.one (wk1.eq rfl)) (wkVs.cons (wkV.one (wk1.eq rfl)) wkVs.nil))), ⟨wkBox.cells (wkL.cons (wk1.eq rfl) (wkL.cons (wk1.eq rfl) (wkL.cons (wk1.eq rfl) (wkL.cons (wk1.eq rfl) (wkL.cons (wk1.eq rfl) (wkL.cons (wk1.eq rfl) (wkL.cons (wk1.eq rfl) (wkL.cons (wk1.eq rfl) wkL.nil)))))))), trivial⟩⟩
          intro p hp; cases hp
        · skip
          cases h

abbrev TL := List (List UInt8)
/-- A group: its timing; busy, next, told, last, since. -/
abbrev GS := (Int × Int × Int) × Bool × Int × Bool × TL × Int
/-- Tick, in plain words. -/
def tickG (g : GS) (t : Int) (al : TL) : TL × Bool × GS :=
  if g.2.1 = false ∧ al = [] then ([], false, g)
  else if t < (if g.2.1 then g.2.2.1 else t + g.1.1) then ([], false, (g.1, true, if g.2.1 then g.2.2 else (t + g.1.1, false, [], 0)))
  else if al = [] then ([], if g.2.1 then g.2.2.2.1 else false, (g.1, false, 0, false, [], 0))
  else if g.2.1 = false ∨ g.2.2.2.1 = false ∨ al ≠ g.2.2.2.2.1 ∨ t - g.2.2.2.2.2 ≥ g.1.2.2 then (al, true, (g.1, true, t + g.1.2.1, true, al, t))
  else ([], false, (g.1, true, t + g.1.2.1, g.2.2.2))
def tickPre (g : GS) (t : Int) (al : TL) : Bool := decide (0 ≤ t ∧ t ≤ 1099511627776 ∧ 0 ≤ g.1.1 ∧ g.1.1 ≤ 1099511627776 ∧ 0 ≤ g.1.2.1 ∧ g.1.2.1 ≤ 1099511627776 ∧ 0 ≤ g.2.2.2.2.2 ∧ g.2.2.2.2.2 ≤ 1099511627776 ∧ al.length * 16 ≤ 70368744177664)
theorem tick16 (g : GS) (t : Int) (al : TL) (h : tickPre g t al = true) : ∃ m, p16 m g t al = some (tickG g t al) := by
  refine ⟨0, ?_⟩
  have h := of_decide_eq_true h
  obtain ⟨⟨w, i, r⟩, busy, nx, told, last, since⟩ := g
  simp only at h
  have e1 : IntKind.wrap .i64 (t + w) = t + w := wrap_id (by omega) (by omega)
  have e2 : IntKind.wrap .i64 (t + i) = t + i := wrap_id (by omega) (by omega)
  have e3 : IntKind.wrap .i64 (t - since) = t - since := wrap_id (by omega) (by omega)
  have e4 : decide ((List.length al * 16) ≤ 70368744177664) = true := decide_eq_true h.2.2.2.2.2.2.2.2
  have e5 : decide (List.length al < 4611686018427387904) = true := decide_eq_true (by omega)
  have e6 : (((List.length al : Nat) : Int) == (0)) = decide (al = []) := by cases al <;> simp; omega
  unfold p16 tickG
  simp only [e1, e2, e3, e4, e5, e6]
  cases busy <;> cases told <;> by_cases ha : al = [] <;> simp [ha]
  all_goals (try split) <;> (try split) <;> (try split) <;> simp_all
  all_goals omega
def s16 : List AV → Boxes → M (AV × Boxes) := normS [.ptr, .val (.int .i64), .val (.sl .str)] [(.pair (.pair (.int .i64) (.pair (.int .i64) (.int .i64))) (.pair .bool (.pair (.int .i64) (.pair .bool (.pair (.sl .str) (.int .i64))))))] fun xs B => match xs, B with
  | [(.ptr 0 0), (.d (.int .i64 c9)), (.d (.sl .str c10))], [(.cells [(.d (.int .i64 c1)), (.d (.int .i64 c2)), (.d (.int .i64 c3)), (.d (.bool c4)), (.d (.int .i64 c5)), (.d (.bool c6)), (.d (.sl .str c7)), (.d (.int .i64 c8))])] => .chk (tickPre (((c1, (c2, c3)), (c4, (c5, (c6, (c7, c8)))))) c9 c10) (.ret ((.tup [(.d (.sl .str (tickG (((c1, (c2, c3)), (c4, (c5, (c6, (c7, c8)))))) c9 c10).1)), (.d (.bool (tickG (((c1, (c2, c3)), (c4, (c5, (c6, (c7, c8)))))) c9 c10).2.1))]), [(.cells [(.d (.int .i64 (tickG (((c1, (c2, c3)), (c4, (c5, (c6, (c7, c8)))))) c9 c10).2.2.1.1)), (.d (.int .i64 (tickG (((c1, (c2, c3)), (c4, (c5, (c6, (c7, c8)))))) c9 c10).2.2.1.2.1)), (.d (.int .i64 (tickG (((c1, (c2, c3)), (c4, (c5, (c6, (c7, c8)))))) c9 c10).2.2.1.2.2)), (.d (.bool (tickG (((c1, (c2, c3)), (c4, (c5, (c6, (c7, c8)))))) c9 c10).2.2.2.1)), (.d (.int .i64 (tickG (((c1, (c2, c3)), (c4, (c5, (c6, (c7, c8)))))) c9 c10).2.2.2.2.1)), (.d (.bool (tickG (((c1, (c2, c3)), (c4, (c5, (c6, (c7, c8)))))) c9 c10).2.2.2.2.2.1)), (.d (.sl .str (tickG (((c1, (c2, c3)), (c4, (c5, (c6, (c7, c8)))))) c9 c10).2.2.2.2.2.2.1)), (.d (.int .i64 (tickG (((c1, (c2, c3)), (c4, (c5, (c6, (c7, c8)))))) c9 c10).2.2.2.2.2.2.2))])]))
  | _, _ => .fail
theorem s16_at : CallAt Try.prog 16 s16 := by
  refine CallAt.norm (CallAt.weakE (g := fun n => evCall F S3 n 16) (fun n => evCall_atH mixed kinds hds S3 S3_ok n 16) fun xs B r' B' hr => ?_) _ _
  split at hr
  · rename_i c9 c10 c1 c2 c3 c4 c5 c6 c7 c8
    obtain ⟨hp, hr⟩ := (M.run_chk _ _ _).1 hr
    simp only [M.run, Option.some.injEq, Prod.mk.injEq] at hr
    obtain ⟨rfl, rfl⟩ := hr
    obtain ⟨m, hm⟩ := tick16 (((c1, (c2, c3)), (c4, (c5, (c6, (c7, c8)))))) c9 c10 hp
    obtain ⟨r, B1, h1, h2, h3, h4⟩ := p16_ok m (((c1, (c2, c3)), (c4, (c5, (c6, (c7, c8)))))) c9 c10 _ hm
    exact ⟨m + 25, r, B1, h1, by simp, h2, h3, h4⟩
  · simp [M.run] at hr
noncomputable def S4 : FuncId → Option (List AV → Boxes → M (AV × Boxes)) := fun f => if f = 16 then some s16 else S3 f
set_option maxHeartbeats 20000000 in
theorem S4_ok : ∀ f s, S4 f = some s → CallAt Try.prog f s := by
  intro f s h
  unfold S4 at h
  split at h
  · rename_i e; subst e; cases h; exact s16_at
  · exact S3_ok f s h

end Go.Proofs.Ytkppbflmlpabjab.Dec
