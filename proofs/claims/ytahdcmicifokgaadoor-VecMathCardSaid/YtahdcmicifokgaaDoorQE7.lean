/- Reckon, Scale. Math. VecMath, as a plain function. VecMath: its plain law. -/
import Derived.Test.YtahdcmicifokgaaDoorQE6
import Derived.KernelRfl
namespace Go.Proofs.YtahdcmicifokgaaDoor.Dec
open Go.Ev
set_option linter.unusedVariables false
set_option linter.unusedSimpArgs false
set_option maxRecDepth 100000
set_option maxHeartbeats 20000000
noncomputable def fn50 : AFn := (F 50).getD ⟨0, [], .bad, false, false, noHd⟩
noncomputable def body50 : AC := fn50.body
def p50 (m : Nat) (x0 : Int) (x1 : Int) (x2 : Int) : Option (Int × Int) :=
  if (x0 == (3)) = true then
    if (decide ((IntKind.wrap .i64 (x1 + x2)) > x1) == decide (x2 > 0)) = true then
      some ((IntKind.wrap .i64 (x1 + x2)), (0))
    else
      if (x2 != (0)) = true then
        some ((0), (3))
      else
        some ((IntKind.wrap .i64 (x1 + x2)), (0))
  else
    if (x0 == (4)) = true then
      if (decide ((IntKind.wrap .i64 (x1 - x2)) < x1) == decide (x2 > 0)) = true then
        some ((IntKind.wrap .i64 (x1 - x2)), (0))
      else
        if (x2 != (0)) = true then
          some ((0), (3))
        else
          some ((IntKind.wrap .i64 (x1 - x2)), (0))
    else
      if (x0 == (5)) = true then
        if (x1 == (-9223372036854775808)) = true then
          if (x2 == (-1)) = true then
            if (x1 != (0)) = true then
              some ((0), (3))
            else
              some ((IntKind.wrap .i64 (x1 * x2)), (0))
          else
            if (x2 == (-9223372036854775808)) = true then
              if (x1 != (0)) = true then
                if (x1 == (-1)) = true then
                  some ((0), (3))
                else
                  if decide (x1 = 0) = true then
                    none
                  else
                    if ((IntKind.wrap .i64 (Int.tdiv (IntKind.wrap .i64 (x1 * x2)) x1)) != x2) = true then
                      some ((0), (3))
                    else
                      some ((IntKind.wrap .i64 (x1 * x2)), (0))
              else
                some ((IntKind.wrap .i64 (x1 * x2)), (0))
            else
              if (x1 != (0)) = true then
                if decide (x1 = 0) = true then
                  none
                else
                  if ((IntKind.wrap .i64 (Int.tdiv (IntKind.wrap .i64 (x1 * x2)) x1)) != x2) = true then
                    some ((0), (3))
                  else
                    some ((IntKind.wrap .i64 (x1 * x2)), (0))
              else
                some ((IntKind.wrap .i64 (x1 * x2)), (0))
        else
          if (x2 == (-9223372036854775808)) = true then
            if (x1 != (0)) = true then
              if (x1 == (-1)) = true then
                some ((0), (3))
              else
                if decide (x1 = 0) = true then
                  none
                else
                  if ((IntKind.wrap .i64 (Int.tdiv (IntKind.wrap .i64 (x1 * x2)) x1)) != x2) = true then
                    some ((0), (3))
                  else
                    some ((IntKind.wrap .i64 (x1 * x2)), (0))
            else
              some ((IntKind.wrap .i64 (x1 * x2)), (0))
          else
            if (x1 != (0)) = true then
              if decide (x1 = 0) = true then
                none
              else
                if ((IntKind.wrap .i64 (Int.tdiv (IntKind.wrap .i64 (x1 * x2)) x1)) != x2) = true then
                  some ((0), (3))
                else
                  some ((IntKind.wrap .i64 (x1 * x2)), (0))
            else
              some ((IntKind.wrap .i64 (x1 * x2)), (0))
      else
        if (x0 == (6)) = true then
          if (x2 == (0)) = true then
            some ((0), (4))
          else
            if (x1 == (-9223372036854775808)) = true then
              if (x2 == (-1)) = true then
                some ((0), (3))
              else
                if decide (x2 = 0) = true then
                  none
                else
                  some ((IntKind.wrap .i64 (Int.tdiv x1 x2)), (0))
            else
              if decide (x2 = 0) = true then
                none
              else
                some ((IntKind.wrap .i64 (Int.tdiv x1 x2)), (0))
        else
          if (x0 == (7)) = true then
            if (x2 == (0)) = true then
              some ((0), (4))
            else
              if decide (x2 = 0) = true then
                none
              else
                some ((Int.tmod x1 x2), (0))
          else
            some ((0), (1))
theorem p50_ok (m : Nat) (x0 : Int) (x1 : Int) (x2 : Int) (q : Int × Int) (h : p50 m x0 x1 x2 = some q) : ∃ r B1, (evCall F S33 (m + 25) 50 [(.d (.int .i64 x0)), (.d (.int .i64 x1)), (.d (.int .i64 x2))] []).run = some (r, B1) ∧ 0 ≤ B1.length ∧ wkR B1 [] r (.tup [(.d (.int .i64 q.1)), (.d (.int .i64 q.2))]) ∧ wkBs B1 [] 0 [] := by
  unfold p50 at h
  refine ite_cases h (fun c0 h => ?_) (fun c0 h => ?_)
  · skip
    refine ite_cases h (fun c1 h => ?_) (fun c1 h => ?_)
    · skip
      cases h
      refine ⟨(.tup [(.d (.int .i64 (IntKind.wrap .i64 (x1 + x2)))), (.d (.int .i64 (0)))]), [], runT_ok (LS := (fun k => none)) (fn := fn50) (vis := []) (by kernel_rfl) rfl (by kernel_rfl) (M.run_of_path _ [tT, fF, fF, fF, fF] _ _ (by kernel_rfl) (all_t c0 (all_nt c1 (all_nt c1 (all_nt c1 (all_f Bool.false_ne_true all_nil)))))) ?_, by simp, (wkR.tup (wkVs.cons (wkV.one (wk1.eq rfl)) (wkVs.cons (wkV.one (wk1.eq rfl)) wkVs.nil))), trivial⟩
      intro p hp; cases hp
    · skip
      refine ite_cases h (fun c4 h => ?_) (fun c4 h => ?_)
      · skip
        cases h
        refine ⟨(.tup [(.d (.int .i64 (0))), (.d (.int .i64 (3)))]), [], runT_ok (LS := (fun k => none)) (fn := fn50) (vis := []) (by kernel_rfl) rfl (by kernel_rfl) (M.run_of_path _ [tT, tT, tT, tT, tT] _ _ (by kernel_rfl) (all_t c0 (all_nf c1 (all_nf c1 (all_nf c1 (all_t c4 all_nil)))))) ?_, by simp, (wkR.tup (wkVs.cons (wkV.one (wk1.eq rfl)) (wkVs.cons (wkV.one (wk1.eq rfl)) wkVs.nil))), trivial⟩
        intro p hp; cases hp
      · skip
        cases h
        refine ⟨(.tup [(.d (.int .i64 (IntKind.wrap .i64 (x1 + x2)))), (.d (.int .i64 (0)))]), [], runT_ok (LS := (fun k => none)) (fn := fn50) (vis := []) (by kernel_rfl) rfl (by kernel_rfl) (M.run_of_path _ [tT, tT, tT, tT, fF] _ _ (by kernel_rfl) (all_t c0 (all_nf c1 (all_nf c1 (all_nf c1 (all_f c4 all_nil)))))) ?_, by simp, (wkR.tup (wkVs.cons (wkV.one (wk1.eq rfl)) (wkVs.cons (wkV.one (wk1.eq rfl)) wkVs.nil))), trivial⟩
        intro p hp; cases hp
  · skip
    refine ite_cases h (fun c1 h => ?_) (fun c1 h => ?_)
    · skip
      refine ite_cases h (fun c2 h => ?_) (fun c2 h => ?_)
      · skip
        cases h
        refine ⟨(.tup [(.d (.int .i64 (IntKind.wrap .i64 (x1 - x2)))), (.d (.int .i64 (0)))]), [], runT_ok (LS := (fun k => none)) (fn := fn50) (vis := []) (by kernel_rfl) rfl (by kernel_rfl) (M.run_of_path _ [fF, tT, fF, fF, fF, fF] _ _ (by kernel_rfl) (all_f c0 (all_t c1 (all_nt c2 (all_nt c2 (all_nt c2 (all_f Bool.false_ne_true all_nil))))))) ?_, by simp, (wkR.tup (wkVs.cons (wkV.one (wk1.eq rfl)) (wkVs.cons (wkV.one (wk1.eq rfl)) wkVs.nil))), trivial⟩
        intro p hp; cases hp
      · skip
        refine ite_cases h (fun c5 h => ?_) (fun c5 h => ?_)
        · skip
          cases h
          refine ⟨(.tup [(.d (.int .i64 (0))), (.d (.int .i64 (3)))]), [], runT_ok (LS := (fun k => none)) (fn := fn50) (vis := []) (by kernel_rfl) rfl (by kernel_rfl) (M.run_of_path _ [fF, tT, tT, tT, tT, tT] _ _ (by kernel_rfl) (all_f c0 (all_t c1 (all_nf c2 (all_nf c2 (all_nf c2 (all_t c5 all_nil))))))) ?_, by simp, (wkR.tup (wkVs.cons (wkV.one (wk1.eq rfl)) (wkVs.cons (wkV.one (wk1.eq rfl)) wkVs.nil))), trivial⟩
          intro p hp; cases hp
        · skip
          cases h
          refine ⟨(.tup [(.d (.int .i64 (IntKind.wrap .i64 (x1 - x2)))), (.d (.int .i64 (0)))]), [], runT_ok (LS := (fun k => none)) (fn := fn50) (vis := []) (by kernel_rfl) rfl (by kernel_rfl) (M.run_of_path _ [fF, tT, tT, tT, tT, fF] _ _ (by kernel_rfl) (all_f c0 (all_t c1 (all_nf c2 (all_nf c2 (all_nf c2 (all_f c5 all_nil))))))) ?_, by simp, (wkR.tup (wkVs.cons (wkV.one (wk1.eq rfl)) (wkVs.cons (wkV.one (wk1.eq rfl)) wkVs.nil))), trivial⟩
          intro p hp; cases hp
    · skip
      refine ite_cases h (fun c2 h => ?_) (fun c2 h => ?_)
      · skip
        refine ite_cases h (fun c3 h => ?_) (fun c3 h => ?_)
        · skip
          refine ite_cases h (fun c6 h => ?_) (fun c6 h => ?_)
          · skip
            refine ite_cases h (fun c11 h => ?_) (fun c11 h => ?_)
            · skip
              cases h
              refine ⟨(.tup [(.d (.int .i64 (0))), (.d (.int .i64 (3)))]), [], runT_ok (LS := (fun k => none)) (fn := fn50) (vis := []) (by kernel_rfl) rfl (by kernel_rfl) (M.run_of_path _ [fF, fF, tT, tT, tT, tT, tT, tT, tT, tT, tT, tT, tT, tT, tT, tT, tT, tT, tT, tT, tT, tT] _ _ (by kernel_rfl) (all_f c0 (all_f c1 (all_t c2 (all_t c3 (all_t c3 (all_t c3 (all_t c6 (all_t c6 (all_t c6 (all_t c6 (all_t c6 (all_t c11 (all_t c11 (all_t rfl (all_t rfl (all_t rfl (all_t rfl (all_t rfl (all_t c11 (all_t rfl (all_t c11 (all_t rfl all_nil))))))))))))))))))))))) ?_, by simp, (wkR.tup (wkVs.cons (wkV.one (wk1.eq rfl)) (wkVs.cons (wkV.one (wk1.eq rfl)) wkVs.nil))), trivial⟩
              intro p hp; cases hp
            · skip
              cases h
              refine ⟨(.tup [(.d (.int .i64 (IntKind.wrap .i64 (x1 * x2)))), (.d (.int .i64 (0)))]), [], runT_ok (LS := (fun k => none)) (fn := fn50) (vis := []) (by kernel_rfl) rfl (by kernel_rfl) (M.run_of_path _ [fF, fF, tT, tT, tT, tT, tT, tT, tT, tT, tT, fF, fF, fF, fF, fF] _ _ (by kernel_rfl) (all_f c0 (all_f c1 (all_t c2 (all_t c3 (all_t c3 (all_t c3 (all_t c6 (all_t c6 (all_t c6 (all_t c6 (all_t c6 (all_f c11 (all_f c11 (all_f c11 (all_f c11 (all_f Bool.false_ne_true all_nil))))))))))))))))) ?_, by simp, (wkR.tup (wkVs.cons (wkV.one (wk1.eq rfl)) (wkVs.cons (wkV.one (wk1.eq rfl)) wkVs.nil))), trivial⟩
              intro p hp; cases hp
          · skip
            refine ite_cases h (fun c9 h => ?_) (fun c9 h => ?_)
            · skip
              refine ite_cases h (fun c14 h => ?_) (fun c14 h => ?_)
              · skip
                refine ite_cases h (fun c16 h => ?_) (fun c16 h => ?_)
                · skip
                  cases h
                  refine ⟨(.tup [(.d (.int .i64 (0))), (.d (.int .i64 (3)))]), [], runT_ok (LS := (fun k => none)) (fn := fn50) (vis := []) (by kernel_rfl) rfl (by kernel_rfl) (M.run_of_path _ [fF, fF, tT, tT, tT, tT, fF, fF, fF, tT, tT, fF, tT, fF, tT, tT, tT, tT, tT, tT, tT, tT, tT, tT, tT] _ _ (by kernel_rfl) (all_f c0 (all_f c1 (all_t c2 (all_t c3 (all_t c3 (all_t c3 (all_f c6 (all_f c6 (all_f c6 (all_t c9 (all_t c9 (all_f c6 (all_t c9 (all_f c6 (all_t c14 (all_t c14 (all_t c16 (all_t c16 (all_t c16 (all_t c16 (all_t c16 (all_t c14 (all_t c16 (all_t c14 (all_t rfl all_nil)))))))))))))))))))))))))) ?_, by simp, (wkR.tup (wkVs.cons (wkV.one (wk1.eq rfl)) (wkVs.cons (wkV.one (wk1.eq rfl)) wkVs.nil))), trivial⟩
                  intro p hp; cases hp
                · skip
                  refine ite_cases h (fun _ h => by cases h) (fun c19 h => ?_)
                  refine ite_cases h (fun c25 h => ?_) (fun c25 h => ?_)
                  · skip
                    cases h
                    refine ⟨(.tup [(.d (.int .i64 (0))), (.d (.int .i64 (3)))]), [], runT_ok (LS := (fun k => none)) (fn := fn50) (vis := []) (by kernel_rfl) rfl (by kernel_rfl) (M.run_of_path _ [fF, fF, tT, tT, tT, tT, fF, fF, fF, tT, tT, fF, tT, fF, tT, tT, fF, fF, fF, tT, fF, fF, tT, fF, tT, tT] _ _ (by kernel_rfl) (all_f c0 (all_f c1 (all_t c2 (all_t c3 (all_t c3 (all_t c3 (all_f c6 (all_f c6 (all_f c6 (all_t c9 (all_t c9 (all_f c6 (all_t c9 (all_f c6 (all_t c14 (all_t c14 (all_f c16 (all_f c16 (all_f c16 (all_nf c19 (all_f c16 (all_f c16 (all_t c14 (all_f c16 (all_t c14 (all_t c25 all_nil))))))))))))))))))))))))))) ?_, by simp, (wkR.tup (wkVs.cons (wkV.one (wk1.eq rfl)) (wkVs.cons (wkV.one (wk1.eq rfl)) wkVs.nil))), trivial⟩
                    intro p hp; cases hp
                  · skip
                    cases h
                    refine ⟨(.tup [(.d (.int .i64 (IntKind.wrap .i64 (x1 * x2)))), (.d (.int .i64 (0)))]), [], runT_ok (LS := (fun k => none)) (fn := fn50) (vis := []) (by kernel_rfl) rfl (by kernel_rfl) (M.run_of_path _ [fF, fF, tT, tT, tT, tT, fF, fF, fF, tT, tT, fF, tT, fF, tT, tT, fF, fF, fF, tT, fF, fF, tT, fF, tT, fF] _ _ (by kernel_rfl) (all_f c0 (all_f c1 (all_t c2 (all_t c3 (all_t c3 (all_t c3 (all_f c6 (all_f c6 (all_f c6 (all_t c9 (all_t c9 (all_f c6 (all_t c9 (all_f c6 (all_t c14 (all_t c14 (all_f c16 (all_f c16 (all_f c16 (all_nf c19 (all_f c16 (all_f c16 (all_t c14 (all_f c16 (all_t c14 (all_f c25 all_nil))))))))))))))))))))))))))) ?_, by simp, (wkR.tup (wkVs.cons (wkV.one (wk1.eq rfl)) (wkVs.cons (wkV.one (wk1.eq rfl)) wkVs.nil))), trivial⟩
                    intro p hp; cases hp
              · skip
                cases h
                refine ⟨(.tup [(.d (.int .i64 (IntKind.wrap .i64 (x1 * x2)))), (.d (.int .i64 (0)))]), [], runT_ok (LS := (fun k => none)) (fn := fn50) (vis := []) (by kernel_rfl) rfl (by kernel_rfl) (M.run_of_path _ [fF, fF, tT, tT, tT, tT, fF, fF, fF, tT, tT, fF, tT, fF, fF, fF, fF, fF, fF] _ _ (by kernel_rfl) (all_f c0 (all_f c1 (all_t c2 (all_t c3 (all_t c3 (all_t c3 (all_f c6 (all_f c6 (all_f c6 (all_t c9 (all_t c9 (all_f c6 (all_t c9 (all_f c6 (all_f c14 (all_f c14 (all_f c14 (all_f c14 (all_f Bool.false_ne_true all_nil)))))))))))))))))))) ?_, by simp, (wkR.tup (wkVs.cons (wkV.one (wk1.eq rfl)) (wkVs.cons (wkV.one (wk1.eq rfl)) wkVs.nil))), trivial⟩
                intro p hp; cases hp
            · skip
              refine ite_cases h (fun c14 h => ?_) (fun c14 h => ?_)
              · skip
                refine ite_cases h (fun _ h => by cases h) (fun c19 h => ?_)
                refine ite_cases h (fun c25 h => ?_) (fun c25 h => ?_)
                · skip
                  cases h
                  refine ⟨(.tup [(.d (.int .i64 (0))), (.d (.int .i64 (3)))]), [], runT_ok (LS := (fun k => none)) (fn := fn50) (vis := []) (by kernel_rfl) rfl (by kernel_rfl) (M.run_of_path _ [fF, fF, tT, tT, tT, tT, fF, fF, fF, fF, fF, fF, fF, fF, tT, tT, fF, fF, fF, tT, fF, fF, tT, fF, tT, tT] _ _ (by kernel_rfl) (all_f c0 (all_f c1 (all_t c2 (all_t c3 (all_t c3 (all_t c3 (all_f c6 (all_f c6 (all_f c6 (all_f c9 (all_f c9 (all_f c6 (all_f c9 (all_f c6 (all_t c14 (all_t c14 (all_f Bool.false_ne_true (all_f Bool.false_ne_true (all_f Bool.false_ne_true (all_nf c19 (all_f Bool.false_ne_true (all_f Bool.false_ne_true (all_t c14 (all_f Bool.false_ne_true (all_t c14 (all_t c25 all_nil))))))))))))))))))))))))))) ?_, by simp, (wkR.tup (wkVs.cons (wkV.one (wk1.eq rfl)) (wkVs.cons (wkV.one (wk1.eq rfl)) wkVs.nil))), trivial⟩
                  intro p hp; cases hp
                · skip
                  cases h
                  refine ⟨(.tup [(.d (.int .i64 (IntKind.wrap .i64 (x1 * x2)))), (.d (.int .i64 (0)))]), [], runT_ok (LS := (fun k => none)) (fn := fn50) (vis := []) (by kernel_rfl) rfl (by kernel_rfl) (M.run_of_path _ [fF, fF, tT, tT, tT, tT, fF, fF, fF, fF, fF, fF, fF, fF, tT, tT, fF, fF, fF, tT, fF, fF, tT, fF, tT, fF] _ _ (by kernel_rfl) (all_f c0 (all_f c1 (all_t c2 (all_t c3 (all_t c3 (all_t c3 (all_f c6 (all_f c6 (all_f c6 (all_f c9 (all_f c9 (all_f c6 (all_f c9 (all_f c6 (all_t c14 (all_t c14 (all_f Bool.false_ne_true (all_f Bool.false_ne_true (all_f Bool.false_ne_true (all_nf c19 (all_f Bool.false_ne_true (all_f Bool.false_ne_true (all_t c14 (all_f Bool.false_ne_true (all_t c14 (all_f c25 all_nil))))))))))))))))))))))))))) ?_, by simp, (wkR.tup (wkVs.cons (wkV.one (wk1.eq rfl)) (wkVs.cons (wkV.one (wk1.eq rfl)) wkVs.nil))), trivial⟩
                  intro p hp; cases hp
              · skip
                cases h
                refine ⟨(.tup [(.d (.int .i64 (IntKind.wrap .i64 (x1 * x2)))), (.d (.int .i64 (0)))]), [], runT_ok (LS := (fun k => none)) (fn := fn50) (vis := []) (by kernel_rfl) rfl (by kernel_rfl) (M.run_of_path _ [fF, fF, tT, tT, tT, tT, fF, fF, fF, fF, fF, fF, fF, fF, fF, fF, fF, fF, fF] _ _ (by kernel_rfl) (all_f c0 (all_f c1 (all_t c2 (all_t c3 (all_t c3 (all_t c3 (all_f c6 (all_f c6 (all_f c6 (all_f c9 (all_f c9 (all_f c6 (all_f c9 (all_f c6 (all_f c14 (all_f c14 (all_f c14 (all_f c14 (all_f Bool.false_ne_true all_nil)))))))))))))))))))) ?_, by simp, (wkR.tup (wkVs.cons (wkV.one (wk1.eq rfl)) (wkVs.cons (wkV.one (wk1.eq rfl)) wkVs.nil))), trivial⟩
                intro p hp; cases hp
        · skip
          refine ite_cases h (fun c9 h => ?_) (fun c9 h => ?_)
          · skip
            refine ite_cases h (fun c14 h => ?_) (fun c14 h => ?_)
            · skip
              refine ite_cases h (fun c16 h => ?_) (fun c16 h => ?_)
              · skip
                cases h
                refine ⟨(.tup [(.d (.int .i64 (0))), (.d (.int .i64 (3)))]), [], runT_ok (LS := (fun k => none)) (fn := fn50) (vis := []) (by kernel_rfl) rfl (by kernel_rfl) (M.run_of_path _ [fF, fF, tT, fF, fF, fF, fF, fF, fF, tT, tT, fF, tT, fF, tT, tT, tT, tT, tT, tT, tT, tT, tT, tT, tT] _ _ (by kernel_rfl) (all_f c0 (all_f c1 (all_t c2 (all_f c3 (all_f c3 (all_f c3 (all_f Bool.false_ne_true (all_f Bool.false_ne_true (all_f Bool.false_ne_true (all_t c9 (all_t c9 (all_f Bool.false_ne_true (all_t c9 (all_f Bool.false_ne_true (all_t c14 (all_t c14 (all_t c16 (all_t c16 (all_t c16 (all_t c16 (all_t c16 (all_t c14 (all_t c16 (all_t c14 (all_t rfl all_nil)))))))))))))))))))))))))) ?_, by simp, (wkR.tup (wkVs.cons (wkV.one (wk1.eq rfl)) (wkVs.cons (wkV.one (wk1.eq rfl)) wkVs.nil))), trivial⟩
                intro p hp; cases hp
              · skip
                refine ite_cases h (fun _ h => by cases h) (fun c19 h => ?_)
                refine ite_cases h (fun c25 h => ?_) (fun c25 h => ?_)
                · skip
                  cases h
                  refine ⟨(.tup [(.d (.int .i64 (0))), (.d (.int .i64 (3)))]), [], runT_ok (LS := (fun k => none)) (fn := fn50) (vis := []) (by kernel_rfl) rfl (by kernel_rfl) (M.run_of_path _ [fF, fF, tT, fF, fF, fF, fF, fF, fF, tT, tT, fF, tT, fF, tT, tT, fF, fF, fF, tT, fF, fF, tT, fF, tT, tT] _ _ (by kernel_rfl) (all_f c0 (all_f c1 (all_t c2 (all_f c3 (all_f c3 (all_f c3 (all_f Bool.false_ne_true (all_f Bool.false_ne_true (all_f Bool.false_ne_true (all_t c9 (all_t c9 (all_f Bool.false_ne_true (all_t c9 (all_f Bool.false_ne_true (all_t c14 (all_t c14 (all_f c16 (all_f c16 (all_f c16 (all_nf c19 (all_f c16 (all_f c16 (all_t c14 (all_f c16 (all_t c14 (all_t c25 all_nil))))))))))))))))))))))))))) ?_, by simp, (wkR.tup (wkVs.cons (wkV.one (wk1.eq rfl)) (wkVs.cons (wkV.one (wk1.eq rfl)) wkVs.nil))), trivial⟩
                  intro p hp; cases hp
                · skip
                  cases h
                  refine ⟨(.tup [(.d (.int .i64 (IntKind.wrap .i64 (x1 * x2)))), (.d (.int .i64 (0)))]), [], runT_ok (LS := (fun k => none)) (fn := fn50) (vis := []) (by kernel_rfl) rfl (by kernel_rfl) (M.run_of_path _ [fF, fF, tT, fF, fF, fF, fF, fF, fF, tT, tT, fF, tT, fF, tT, tT, fF, fF, fF, tT, fF, fF, tT, fF, tT, fF] _ _ (by kernel_rfl) (all_f c0 (all_f c1 (all_t c2 (all_f c3 (all_f c3 (all_f c3 (all_f Bool.false_ne_true (all_f Bool.false_ne_true (all_f Bool.false_ne_true (all_t c9 (all_t c9 (all_f Bool.false_ne_true (all_t c9 (all_f Bool.false_ne_true (all_t c14 (all_t c14 (all_f c16 (all_f c16 (all_f c16 (all_nf c19 (all_f c16 (all_f c16 (all_t c14 (all_f c16 (all_t c14 (all_f c25 all_nil))))))))))))))))))))))))))) ?_, by simp, (wkR.tup (wkVs.cons (wkV.one (wk1.eq rfl)) (wkVs.cons (wkV.one (wk1.eq rfl)) wkVs.nil))), trivial⟩
                  intro p hp; cases hp
            · skip
              cases h
              refine ⟨(.tup [(.d (.int .i64 (IntKind.wrap .i64 (x1 * x2)))), (.d (.int .i64 (0)))]), [], runT_ok (LS := (fun k => none)) (fn := fn50) (vis := []) (by kernel_rfl) rfl (by kernel_rfl) (M.run_of_path _ [fF, fF, tT, fF, fF, fF, fF, fF, fF, tT, tT, fF, tT, fF, fF, fF, fF, fF, fF] _ _ (by kernel_rfl) (all_f c0 (all_f c1 (all_t c2 (all_f c3 (all_f c3 (all_f c3 (all_f Bool.false_ne_true (all_f Bool.false_ne_true (all_f Bool.false_ne_true (all_t c9 (all_t c9 (all_f Bool.false_ne_true (all_t c9 (all_f Bool.false_ne_true (all_f c14 (all_f c14 (all_f c14 (all_f c14 (all_f Bool.false_ne_true all_nil)))))))))))))))))))) ?_, by simp, (wkR.tup (wkVs.cons (wkV.one (wk1.eq rfl)) (wkVs.cons (wkV.one (wk1.eq rfl)) wkVs.nil))), trivial⟩
              intro p hp; cases hp
          · skip
            refine ite_cases h (fun c14 h => ?_) (fun c14 h => ?_)
            · skip
              refine ite_cases h (fun _ h => by cases h) (fun c19 h => ?_)
              refine ite_cases h (fun c25 h => ?_) (fun c25 h => ?_)
              · skip
                cases h
                refine ⟨(.tup [(.d (.int .i64 (0))), (.d (.int .i64 (3)))]), [], runT_ok (LS := (fun k => none)) (fn := fn50) (vis := []) (by kernel_rfl) rfl (by kernel_rfl) (M.run_of_path _ [fF, fF, tT, fF, fF, fF, fF, fF, fF, fF, fF, fF, fF, fF, tT, tT, fF, fF, fF, tT, fF, fF, tT, fF, tT, tT] _ _ (by kernel_rfl) (all_f c0 (all_f c1 (all_t c2 (all_f c3 (all_f c3 (all_f c3 (all_f Bool.false_ne_true (all_f Bool.false_ne_true (all_f Bool.false_ne_true (all_f c9 (all_f c9 (all_f Bool.false_ne_true (all_f c9 (all_f Bool.false_ne_true (all_t c14 (all_t c14 (all_f Bool.false_ne_true (all_f Bool.false_ne_true (all_f Bool.false_ne_true (all_nf c19 (all_f Bool.false_ne_true (all_f Bool.false_ne_true (all_t c14 (all_f Bool.false_ne_true (all_t c14 (all_t c25 all_nil))))))))))))))))))))))))))) ?_, by simp, (wkR.tup (wkVs.cons (wkV.one (wk1.eq rfl)) (wkVs.cons (wkV.one (wk1.eq rfl)) wkVs.nil))), trivial⟩
                intro p hp; cases hp
              · skip
                cases h
                refine ⟨(.tup [(.d (.int .i64 (IntKind.wrap .i64 (x1 * x2)))), (.d (.int .i64 (0)))]), [], runT_ok (LS := (fun k => none)) (fn := fn50) (vis := []) (by kernel_rfl) rfl (by kernel_rfl) (M.run_of_path _ [fF, fF, tT, fF, fF, fF, fF, fF, fF, fF, fF, fF, fF, fF, tT, tT, fF, fF, fF, tT, fF, fF, tT, fF, tT, fF] _ _ (by kernel_rfl) (all_f c0 (all_f c1 (all_t c2 (all_f c3 (all_f c3 (all_f c3 (all_f Bool.false_ne_true (all_f Bool.false_ne_true (all_f Bool.false_ne_true (all_f c9 (all_f c9 (all_f Bool.false_ne_true (all_f c9 (all_f Bool.false_ne_true (all_t c14 (all_t c14 (all_f Bool.false_ne_true (all_f Bool.false_ne_true (all_f Bool.false_ne_true (all_nf c19 (all_f Bool.false_ne_true (all_f Bool.false_ne_true (all_t c14 (all_f Bool.false_ne_true (all_t c14 (all_f c25 all_nil))))))))))))))))))))))))))) ?_, by simp, (wkR.tup (wkVs.cons (wkV.one (wk1.eq rfl)) (wkVs.cons (wkV.one (wk1.eq rfl)) wkVs.nil))), trivial⟩
                intro p hp; cases hp
            · skip
              cases h
              refine ⟨(.tup [(.d (.int .i64 (IntKind.wrap .i64 (x1 * x2)))), (.d (.int .i64 (0)))]), [], runT_ok (LS := (fun k => none)) (fn := fn50) (vis := []) (by kernel_rfl) rfl (by kernel_rfl) (M.run_of_path _ [fF, fF, tT, fF, fF, fF, fF, fF, fF, fF, fF, fF, fF, fF, fF, fF, fF, fF, fF] _ _ (by kernel_rfl) (all_f c0 (all_f c1 (all_t c2 (all_f c3 (all_f c3 (all_f c3 (all_f Bool.false_ne_true (all_f Bool.false_ne_true (all_f Bool.false_ne_true (all_f c9 (all_f c9 (all_f Bool.false_ne_true (all_f c9 (all_f Bool.false_ne_true (all_f c14 (all_f c14 (all_f c14 (all_f c14 (all_f Bool.false_ne_true all_nil)))))))))))))))))))) ?_, by simp, (wkR.tup (wkVs.cons (wkV.one (wk1.eq rfl)) (wkVs.cons (wkV.one (wk1.eq rfl)) wkVs.nil))), trivial⟩
              intro p hp; cases hp
      · skip
        refine ite_cases h (fun c3 h => ?_) (fun c3 h => ?_)
        · skip
          refine ite_cases h (fun c4 h => ?_) (fun c4 h => ?_)
          · skip
            cases h
            refine ⟨(.tup [(.d (.int .i64 (0))), (.d (.int .i64 (4)))]), [], runT_ok (LS := (fun k => none)) (fn := fn50) (vis := []) (by kernel_rfl) rfl (by kernel_rfl) (M.run_of_path _ [fF, fF, fF, tT, tT] _ _ (by kernel_rfl) (all_f c0 (all_f c1 (all_f c2 (all_t c3 (all_t c4 all_nil)))))) ?_, by simp, (wkR.tup (wkVs.cons (wkV.one (wk1.eq rfl)) (wkVs.cons (wkV.one (wk1.eq rfl)) wkVs.nil))), trivial⟩
            intro p hp; cases hp
          · skip
            refine ite_cases h (fun c5 h => ?_) (fun c5 h => ?_)
            · skip
              refine ite_cases h (fun c8 h => ?_) (fun c8 h => ?_)
              · skip
                cases h
                refine ⟨(.tup [(.d (.int .i64 (0))), (.d (.int .i64 (3)))]), [], runT_ok (LS := (fun k => none)) (fn := fn50) (vis := []) (by kernel_rfl) rfl (by kernel_rfl) (M.run_of_path _ [fF, fF, fF, tT, fF, tT, tT, tT, tT] _ _ (by kernel_rfl) (all_f c0 (all_f c1 (all_f c2 (all_t c3 (all_f c4 (all_t c5 (all_t c5 (all_t c5 (all_t c8 all_nil)))))))))) ?_, by simp, (wkR.tup (wkVs.cons (wkV.one (wk1.eq rfl)) (wkVs.cons (wkV.one (wk1.eq rfl)) wkVs.nil))), trivial⟩
                intro p hp; cases hp
              · skip
                refine ite_cases h (fun _ h => by cases h) (fun c9 h => ?_)
                cases h
                refine ⟨(.tup [(.d (.int .i64 (IntKind.wrap .i64 (Int.tdiv x1 x2)))), (.d (.int .i64 (0)))]), [], runT_ok (LS := (fun k => none)) (fn := fn50) (vis := []) (by kernel_rfl) rfl (by kernel_rfl) (M.run_of_path _ [fF, fF, fF, tT, fF, tT, tT, tT, fF, tT] _ _ (by kernel_rfl) (all_f c0 (all_f c1 (all_f c2 (all_t c3 (all_f c4 (all_t c5 (all_t c5 (all_t c5 (all_f c8 (all_nf c9 all_nil))))))))))) ?_, by simp, (wkR.tup (wkVs.cons (wkV.one (wk1.eq rfl)) (wkVs.cons (wkV.one (wk1.eq rfl)) wkVs.nil))), trivial⟩
                intro p hp; cases hp
            · skip
              refine ite_cases h (fun _ h => by cases h) (fun c9 h => ?_)
              cases h
              refine ⟨(.tup [(.d (.int .i64 (IntKind.wrap .i64 (Int.tdiv x1 x2)))), (.d (.int .i64 (0)))]), [], runT_ok (LS := (fun k => none)) (fn := fn50) (vis := []) (by kernel_rfl) rfl (by kernel_rfl) (M.run_of_path _ [fF, fF, fF, tT, fF, fF, fF, fF, fF, tT] _ _ (by kernel_rfl) (all_f c0 (all_f c1 (all_f c2 (all_t c3 (all_f c4 (all_f c5 (all_f c5 (all_f c5 (all_f Bool.false_ne_true (all_nf c9 all_nil))))))))))) ?_, by simp, (wkR.tup (wkVs.cons (wkV.one (wk1.eq rfl)) (wkVs.cons (wkV.one (wk1.eq rfl)) wkVs.nil))), trivial⟩
              intro p hp; cases hp
        · skip
          refine ite_cases h (fun c4 h => ?_) (fun c4 h => ?_)
          · skip
            refine ite_cases h (fun c5 h => ?_) (fun c5 h => ?_)
            · skip
              cases h
              refine ⟨(.tup [(.d (.int .i64 (0))), (.d (.int .i64 (4)))]), [], runT_ok (LS := (fun k => none)) (fn := fn50) (vis := []) (by kernel_rfl) rfl (by kernel_rfl) (M.run_of_path _ [fF, fF, fF, fF, tT, tT] _ _ (by kernel_rfl) (all_f c0 (all_f c1 (all_f c2 (all_f c3 (all_t c4 (all_t c5 all_nil))))))) ?_, by simp, (wkR.tup (wkVs.cons (wkV.one (wk1.eq rfl)) (wkVs.cons (wkV.one (wk1.eq rfl)) wkVs.nil))), trivial⟩
              intro p hp; cases hp
            · skip
              refine ite_cases h (fun _ h => by cases h) (fun c6 h => ?_)
              cases h
              refine ⟨(.tup [(.d (.int .i64 (Int.tmod x1 x2))), (.d (.int .i64 (0)))]), [], runT_ok (LS := (fun k => none)) (fn := fn50) (vis := []) (by kernel_rfl) rfl (by kernel_rfl) (M.run_of_path _ [fF, fF, fF, fF, tT, fF, tT] _ _ (by kernel_rfl) (all_f c0 (all_f c1 (all_f c2 (all_f c3 (all_t c4 (all_f c5 (all_nf c6 all_nil)))))))) ?_, by simp, (wkR.tup (wkVs.cons (wkV.one (wk1.eq rfl)) (wkVs.cons (wkV.one (wk1.eq rfl)) wkVs.nil))), trivial⟩
              intro p hp; cases hp
          · skip
            cases h
            refine ⟨(.tup [(.d (.int .i64 (0))), (.d (.int .i64 (1)))]), [], runT_ok (LS := (fun k => none)) (fn := fn50) (vis := []) (by kernel_rfl) rfl (by kernel_rfl) (M.run_of_path _ [fF, fF, fF, fF, fF] _ _ (by kernel_rfl) (all_f c0 (all_f c1 (all_f c2 (all_f c3 (all_f c4 all_nil)))))) ?_, by simp, (wkR.tup (wkVs.cons (wkV.one (wk1.eq rfl)) (wkVs.cons (wkV.one (wk1.eq rfl)) wkVs.nil))), trivial⟩
            intro p hp; cases hp

def reckG (k a b : Int) : Int × Int := if k = 3 then (a + b, 0) else if k = 4 then (a - b, 0) else if k = 5 then (a * b, 0) else if k = 6 then (if b = 0 then (0, 4) else (Int.tdiv a b, 0)) else if k = 7 then (if b = 0 then (0, 4) else (Int.tmod a b, 0)) else (0, 1)
def reckPre (a b : Int) : Bool := decide (-1000000 ≤ a ∧ a ≤ 1000000 ∧ -1000000 ≤ b ∧ b ≤ 1000000)
theorem mul_small {a b : Int} (h : -1000000 ≤ a ∧ a ≤ 1000000 ∧ -1000000 ≤ b ∧ b ≤ 1000000) : -1000000000000 ≤ a * b ∧ a * b ≤ 1000000000000 := by
  have h1 := Int.natAbs_mul a b
  have h2 : a.natAbs * b.natAbs ≤ 1000000 * 1000000 := Nat.mul_le_mul (by omega) (by omega)
  omega
theorem reck50 (k a b : Int) (h : reckPre a b = true) : ∃ m, p50 m k a b = some (reckG k a b) := by
  have h := of_decide_eq_true h
  refine ⟨0, ?_⟩
  have hm := mul_small h
  have hd := Int.natAbs_tdiv_le_natAbs a b
  have w1 : IntKind.wrap .i64 (a + b) = a + b := wrap_id (by omega) (by omega)
  have w2 : IntKind.wrap .i64 (a - b) = a - b := wrap_id (by omega) (by omega)
  have w3 : IntKind.wrap .i64 (a * b) = a * b := wrap_id (by omega) (by omega)
  have w4 : IntKind.wrap .i64 (Int.tdiv a b) = Int.tdiv a b := wrap_id (by omega) (by omega)
  unfold p50 reckG
  rw [w1, w2, w3, w4]
  have z1 : (a == (-9223372036854775808)) = false := by rw [beq_eq_false_iff_ne]; omega
  have z2 : (b == (-9223372036854775808)) = false := by rw [beq_eq_false_iff_ne]; omega
  by_cases k3 : k = 3
  · have e : (decide (a + b > a) == decide (b > 0)) = true := by
      by_cases hb : b > 0
      · rw [decide_eq_true hb, decide_eq_true (by omega)]; rfl
      · rw [decide_eq_false hb, decide_eq_false (by omega)]; rfl
    rw [if_pos (beq_iff_eq.2 k3), if_pos e, if_pos k3]
  · rw [if_neg (fun q => k3 (beq_iff_eq.1 q)), if_neg k3]
    by_cases k4 : k = 4
    · have e : (decide (a - b < a) == decide (b > 0)) = true := by
        by_cases hb : b > 0
        · rw [decide_eq_true hb, decide_eq_true (by omega)]; rfl
        · rw [decide_eq_false hb, decide_eq_false (by omega)]; rfl
      rw [if_pos (beq_iff_eq.2 k4), if_pos e, if_pos k4]
    · rw [if_neg (fun q => k4 (beq_iff_eq.1 q)), if_neg k4]
      by_cases k5 : k = 5
      · rw [if_pos (beq_iff_eq.2 k5), if_pos k5, z1, z2, if_neg (by simp), if_neg (by simp)]
        by_cases ha : a = 0
        · have : (a != 0) = false := by rw [ha]; rfl
          rw [this, if_neg (by simp)]
        · have e1 : (a != 0) = true := by rw [bne_iff_ne]; exact ha
          have e2 : decide (a = 0) = false := decide_eq_false ha
          have e3 : IntKind.wrap .i64 (Int.tdiv (a * b) a) = b := by rw [Int.mul_tdiv_cancel_left b ha]; exact wrap_id (by omega) (by omega)
          rw [if_pos e1, e2, if_neg (by simp), e3, if_neg (by simp)]
      · rw [if_neg (fun q => k5 (beq_iff_eq.1 q)), if_neg k5]
        by_cases k6 : k = 6
        · rw [if_pos (beq_iff_eq.2 k6), if_pos k6, z1]
          by_cases hb : b = 0
          · rw [if_pos (beq_iff_eq.2 hb), if_pos hb]
          · have e2 : decide (b = 0) = false := decide_eq_false hb
            rw [if_neg (fun q => hb (beq_iff_eq.1 q)), if_neg hb, if_neg (by simp), e2, if_neg (by simp)]
        · rw [if_neg (fun q => k6 (beq_iff_eq.1 q)), if_neg k6]
          by_cases k7 : k = 7
          · rw [if_pos (beq_iff_eq.2 k7), if_pos k7]
            by_cases hb : b = 0
            · rw [if_pos (beq_iff_eq.2 hb), if_pos hb]
            · have e2 : decide (b = 0) = false := decide_eq_false hb
              rw [if_neg (fun q => hb (beq_iff_eq.1 q)), if_neg hb, e2, if_neg (by simp)]
          · rw [if_neg (fun q => k7 (beq_iff_eq.1 q)), if_neg k7]
def s50 : List AV → Boxes → M (AV × Boxes) := normS [.val (.int .i64), .val (.int .i64), .val (.int .i64)] [] fun xs B => match xs, B with
  | [(.d (.int .i64 c1)), (.d (.int .i64 c2)), (.d (.int .i64 c3))], [] => .chk (reckPre c2 c3) (.ret ((.tup [(.d (.int .i64 (reckG c1 c2 c3).1)), (.d (.int .i64 (reckG c1 c2 c3).2))]), []))
  | _, _ => .fail
theorem s50_at : CallAt Tryd.prog 50 s50 := by
  refine CallAt.norm (CallAt.weakE (g := fun n => evCall F S33 n 50) (fun n => evCall_atH mixed kinds hds S33 S33_ok n 50) fun xs B r' B' hr => ?_) _ _
  split at hr
  · rename_i c1 c2 c3
    obtain ⟨hp, hr⟩ := (M.run_chk _ _ _).1 hr
    simp only [M.run, Option.some.injEq, Prod.mk.injEq] at hr
    obtain ⟨rfl, rfl⟩ := hr
    obtain ⟨m, hm⟩ := reck50 c1 c2 c3 hp
    obtain ⟨r, B1, h1, h2, h3, h4⟩ := p50_ok m c1 c2 c3 _ hm
    exact ⟨m + 25, r, B1, h1, by simp, h2, h3, h4⟩
  · simp [M.run] at hr
noncomputable def S34 : FuncId → Option (List AV → Boxes → M (AV × Boxes)) := fun f => if f = 50 then some s50 else S33 f
theorem S34_ok : ∀ f s, S34 f = some s → CallAt Tryd.prog f s := by
  intro f s h
  unfold S34 at h
  split at h
  · rename_i e; subst e; cases h; exact s50_at
  · exact S33_ok f s h

noncomputable def fn22 : AFn := (F 22).getD ⟨0, [], .bad, false, false, noHd⟩
noncomputable def body22 : AC := fn22.body
def l22_0 (m : Nat) : Nat → Int → Q0 → Int → Bool → Int → Int → Q0 → Option (Nat × Int × (Q0))
  | 0, _, _, _, _, _, _, _ => none
  | n + 1, x0, x1, x2, x3, s20, s21, b0 => if decide (s21 < s20) = true then
      if decide (0 ≤ s21) = true then
      if decide (s21 < (((List.length x1) : Nat) : Int)) = true then
      if x3 = true then
        if reckPre x2 (List.getD x1 (Int.toNat s21) (([] : Q2), 0)).2 = true then
        if ((reckG x0 x2 (List.getD x1 (Int.toNat s21) (([] : Q2), 0)).2).2 != (0)) = true then
          some (0, s21, b0)
        else
          if decide (List.length (List.getD x1 (Int.toNat s21) (([] : Q2), 0)).1 ≤ 1000000) = true then
          if decide ((((List.length b0) + 1) * 32) ≤ 70368744177664) = true then
          l22_0 m n x0 x1 x2 x3 s20 ((IntKind.wrap .i64 (s21 + (1)))) ((b0 ++ [((pkeyG (List.getD x1 (Int.toNat s21) (([] : Q2), 0))), (reckG x0 x2 (List.getD x1 (Int.toNat s21) (([] : Q2), 0)).2).1)]))
          else none
          else none
        else none
      else
        if reckPre (List.getD x1 (Int.toNat s21) (([] : Q2), 0)).2 x2 = true then
        if ((reckG x0 (List.getD x1 (Int.toNat s21) (([] : Q2), 0)).2 x2).2 != (0)) = true then
          some (1, s21, b0)
        else
          if decide (List.length (List.getD x1 (Int.toNat s21) (([] : Q2), 0)).1 ≤ 1000000) = true then
          if decide ((((List.length b0) + 1) * 32) ≤ 70368744177664) = true then
          l22_0 m n x0 x1 x2 x3 s20 ((IntKind.wrap .i64 (s21 + (1)))) ((b0 ++ [((pkeyG (List.getD x1 (Int.toNat s21) (([] : Q2), 0))), (reckG x0 (List.getD x1 (Int.toNat s21) (([] : Q2), 0)).2 x2).1)]))
          else none
          else none
        else none
      else none
      else none
    else
      some (2, s21, b0)
def l22_0D : Nat × Int × (Q0) := (0, 0, [])
@[reducible] def l22_0R (m n : Nat) (x0 : Int) (x1 : Q0) (x2 : Int) (x3 : Bool) (s20 : Int) (s21 : Int) (b0 : Q0) : Nat × Int × (Q0) := Option.getD (l22_0 m n x0 x1 x2 x3 s20 s21 b0) l22_0D
def l22_0H (x0 : Int) (x1 : Q0) (x2 : Int) (x3 : Bool) (s20 : Int) (s21 : Int) (b0 : Q0) : Env := ((.d (.int .i64 x0)) :: .top :: (.d (.int .i64 x2)) :: (.d (.bool (x3))) :: .top :: .top :: .top :: .top :: .top :: .top :: (.sr 0 0 (List.length b0) 2 none) :: tp8 ((.d (.sl (.pair (.sl (.pair .str .str)) (.int .i64)) x1)) :: (.d (.int .i64 s20)) :: (.d (.int .i64 s21)) :: tp30 []))
def l22_0B (x0 : Int) (x1 : Q0) (x2 : Int) (x3 : Bool) (s20 : Int) (s21 : Int) (b0 : Q0) : Boxes := [(.arr (.pair (.sl (.pair .str .str)) (.int .i64)) b0 true)]
def l22_0E (x0 : Int) (x1 : Q0) (x2 : Int) (x3 : Bool) (s20 : Int) (s21 : Int) (b0 : Q0) : Nat → AEx × Env × Boxes
  | 0 => (.ret, ((.d (.int .i64 x0)) :: .top :: (.d (.int .i64 x2)) :: (.d (.bool (x3))) :: .top :: .top :: .top :: .top :: (.sr 22 0 0 2 none) :: (.d (.int .i64 (reckG x0 x2 (List.getD x1 (Int.toNat s21) (([] : Q2), 0)).2).2)) :: (.sr 0 0 (List.length b0) 2 none) :: .top :: (.ptr 1 0) :: (.d (.int .i64 x2)) :: (.d (.int .i64 (List.getD x1 (Int.toNat s21) (([] : Q2), 0)).2)) :: (.d (.int .i64 (reckG x0 x2 (List.getD x1 (Int.toNat s21) (([] : Q2), 0)).2).1)) :: (.d (.int .i64 (reckG x0 x2 (List.getD x1 (Int.toNat s21) (([] : Q2), 0)).2).2)) :: .top :: .top :: (.d (.sl (.pair (.sl (.pair .str .str)) (.int .i64)) x1)) :: (.d (.int .i64 s20)) :: (.d (.int .i64 s21)) :: (.d (.bool (decide (s21 < s20)))) :: (.cptr [(.sl (.pair .str .str) (List.getD x1 (Int.toNat s21) (([] : Q2), 0)).1), (.int .i64 (List.getD x1 (Int.toNat s21) (([] : Q2), 0)).2)] 0) :: (.agg [(.d (.sl (.pair .str .str) (List.getD x1 (Int.toNat s21) (([] : Q2), 0)).1)), (.d (.int .i64 (List.getD x1 (Int.toNat s21) (([] : Q2), 0)).2))]) :: (.ptr 1 1) :: (.d (.int .i64 (List.getD x1 (Int.toNat s21) (([] : Q2), 0)).2)) :: (.d (.int .i64 x2)) :: (.d (.bool (x3))) :: (.d (.int .i64 x2)) :: (.ptr 1 1) :: (.d (.int .i64 (List.getD x1 (Int.toNat s21) (([] : Q2), 0)).2)) :: (.tup [(.d (.int .i64 (reckG x0 x2 (List.getD x1 (Int.toNat s21) (([] : Q2), 0)).2).1)), (.d (.int .i64 (reckG x0 x2 (List.getD x1 (Int.toNat s21) (([] : Q2), 0)).2).2))]) :: (.d (.int .i64 x0)) :: (.d (.int .i64 x2)) :: (.d (.int .i64 (List.getD x1 (Int.toNat s21) (([] : Q2), 0)).2)) :: (.tup [(.d (.int .i64 (reckG x0 x2 (List.getD x1 (Int.toNat s21) (([] : Q2), 0)).2).1)), (.d (.int .i64 (reckG x0 x2 (List.getD x1 (Int.toNat s21) (([] : Q2), 0)).2).2))]) :: (.d (.int .i64 (reckG x0 x2 (List.getD x1 (Int.toNat s21) (([] : Q2), 0)).2).1)) :: (.d (.int .i64 (reckG x0 x2 (List.getD x1 (Int.toNat s21) (([] : Q2), 0)).2).2)) :: (.d (.int .i64 (reckG x0 x2 (List.getD x1 (Int.toNat s21) (([] : Q2), 0)).2).2)) :: (.d (.bool ((reckG x0 x2 (List.getD x1 (Int.toNat s21) (([] : Q2), 0)).2).2 != (0)))) :: (.d (.int .i64 (reckG x0 x2 (List.getD x1 (Int.toNat s21) (([] : Q2), 0)).2).2)) :: tp10 []), [(.arr (.pair (.sl (.pair .str .str)) (.int .i64)) b0 true), (.cells [(.d (.sl (.pair .str .str) (List.getD x1 (Int.toNat s21) (([] : Q2), 0)).1)), (.d (.int .i64 (List.getD x1 (Int.toNat s21) (([] : Q2), 0)).2))]), .dead, .dead, .dead, .dead, .dead, .dead, .dead, .dead, .dead, .dead, .dead, .dead, .dead, .dead, .dead, .dead, .dead, .dead, .dead, .dead, (.arr (.pair (.sl (.pair .str .str)) (.int .i64)) ([] : Q0) true)])
  | 1 => (.ret, ((.d (.int .i64 x0)) :: .top :: (.d (.int .i64 x2)) :: (.d (.bool (x3))) :: .top :: .top :: .top :: .top :: (.sr 2 0 0 2 none) :: (.d (.int .i64 (reckG x0 (List.getD x1 (Int.toNat s21) (([] : Q2), 0)).2 x2).2)) :: (.sr 0 0 (List.length b0) 2 none) :: .top :: (.ptr 1 0) :: (.d (.int .i64 (List.getD x1 (Int.toNat s21) (([] : Q2), 0)).2)) :: (.d (.int .i64 x2)) :: (.d (.int .i64 (reckG x0 (List.getD x1 (Int.toNat s21) (([] : Q2), 0)).2 x2).1)) :: (.d (.int .i64 (reckG x0 (List.getD x1 (Int.toNat s21) (([] : Q2), 0)).2 x2).2)) :: .top :: .top :: (.d (.sl (.pair (.sl (.pair .str .str)) (.int .i64)) x1)) :: (.d (.int .i64 s20)) :: (.d (.int .i64 s21)) :: (.d (.bool (decide (s21 < s20)))) :: (.cptr [(.sl (.pair .str .str) (List.getD x1 (Int.toNat s21) (([] : Q2), 0)).1), (.int .i64 (List.getD x1 (Int.toNat s21) (([] : Q2), 0)).2)] 0) :: (.agg [(.d (.sl (.pair .str .str) (List.getD x1 (Int.toNat s21) (([] : Q2), 0)).1)), (.d (.int .i64 (List.getD x1 (Int.toNat s21) (([] : Q2), 0)).2))]) :: (.ptr 1 1) :: (.d (.int .i64 (List.getD x1 (Int.toNat s21) (([] : Q2), 0)).2)) :: (.d (.int .i64 x2)) :: (.d (.bool (x3))) :: .top :: .top :: .top :: (.tup [(.d (.int .i64 (reckG x0 (List.getD x1 (Int.toNat s21) (([] : Q2), 0)).2 x2).1)), (.d (.int .i64 (reckG x0 (List.getD x1 (Int.toNat s21) (([] : Q2), 0)).2 x2).2))]) :: (.d (.int .i64 x0)) :: (.d (.int .i64 (List.getD x1 (Int.toNat s21) (([] : Q2), 0)).2)) :: (.d (.int .i64 x2)) :: (.tup [(.d (.int .i64 (reckG x0 (List.getD x1 (Int.toNat s21) (([] : Q2), 0)).2 x2).1)), (.d (.int .i64 (reckG x0 (List.getD x1 (Int.toNat s21) (([] : Q2), 0)).2 x2).2))]) :: (.d (.int .i64 (reckG x0 (List.getD x1 (Int.toNat s21) (([] : Q2), 0)).2 x2).1)) :: (.d (.int .i64 (reckG x0 (List.getD x1 (Int.toNat s21) (([] : Q2), 0)).2 x2).2)) :: (.d (.int .i64 (reckG x0 (List.getD x1 (Int.toNat s21) (([] : Q2), 0)).2 x2).2)) :: (.d (.bool ((reckG x0 (List.getD x1 (Int.toNat s21) (([] : Q2), 0)).2 x2).2 != (0)))) :: (.d (.int .i64 (reckG x0 (List.getD x1 (Int.toNat s21) (([] : Q2), 0)).2 x2).2)) :: tp10 []), [(.arr (.pair (.sl (.pair .str .str)) (.int .i64)) b0 true), (.cells [(.d (.sl (.pair .str .str) (List.getD x1 (Int.toNat s21) (([] : Q2), 0)).1)), (.d (.int .i64 (List.getD x1 (Int.toNat s21) (([] : Q2), 0)).2))]), (.arr (.pair (.sl (.pair .str .str)) (.int .i64)) ([] : Q0) true)])
  | _ => (.exit 0, ((.d (.int .i64 x0)) :: .top :: (.d (.int .i64 x2)) :: (.d (.bool (x3))) :: .top :: .top :: .top :: .top :: .top :: .top :: (.sr 0 0 (List.length b0) 2 none) :: tp8 ((.d (.sl (.pair (.sl (.pair .str .str)) (.int .i64)) x1)) :: (.d (.int .i64 s20)) :: (.d (.int .i64 s21)) :: (.d (.bool (decide (s21 < s20)))) :: tp29 [])), [(.arr (.pair (.sl (.pair .str .str)) (.int .i64)) b0 true)])
noncomputable def lbl22_0 : AC := loopBody 3671053 body22
@[reducible] noncomputable def cb21 (m : Nat) := (evC byref (evCall F S34 (m + 24)) (m + 24) 0 (hds 22) lbl22_0)


theorem l22_0_step (m n : Nat) (ih : ∀ (x0 : Int) (x1 : Q0) (x2 : Int) (x3 : Bool) (s20 : Int) (s21 : Int) (b0 : Q0) (q : Nat × Int × (Q0)), l22_0 m n x0 x1 x2 x3 s20 s21 b0 = some q → (turns (hds 22 3671053) 0 3671053 (cb21 m) n (l22_0H x0 x1 x2 x3 s20 s21 b0) (l22_0B x0 x1 x2 x3 s20 s21 b0)).run = some (l22_0E (x0) (x1) (x2) (x3) (s20) (q.2.1) (q.2.2) q.1)) (x0 : Int) (x1 : Q0) (x2 : Int) (x3 : Bool) (s20 : Int) (s21 : Int) (b0 : Q0) (q : Nat × Int × (Q0)) (h : l22_0 m (n + 1) x0 x1 x2 x3 s20 s21 b0 = some q) : (turns (hds 22 3671053) 0 3671053 (cb21 m) (n + 1) (l22_0H x0 x1 x2 x3 s20 s21 b0) (l22_0B x0 x1 x2 x3 s20 s21 b0)).run = some (l22_0E (x0) (x1) (x2) (x3) (s20) (q.2.1) (q.2.2) q.1) := by
  rw [l22_0] at h
  refine ite_cases h (fun c0 h => ?_) (fun c0 h => ?_)
  · skip
    obtain ⟨c1, h⟩ := iY h
    obtain ⟨c2, h⟩ := iY h
    refine ite_cases h (fun c3 h => ?_) (fun c3 h => ?_)
    · skip
      obtain ⟨c4, h⟩ := iY h
      refine ite_cases h (fun c5 h => ?_) (fun c5 h => ?_)
      · skip
        cases h
        refine turns_last (by simp) ?_
        exact M.run_of_path _ [tT, tT, tT, tT, tT, tT] _ _ (by kernel_rfl) (all_t c0 (all_t c1 (all_t c2 (all_t c3 (all_t c4 (all_t c5 all_nil))))))
      · skip
        obtain ⟨c6, h⟩ := iY h
        obtain ⟨c8, h⟩ := iY h
        have ih := ih _ _ _ _ _ _ _ q h
        have ht : (turn (hds 22 3671053) 0 3671053 (cb21 m) (l22_0H x0 x1 x2 x3 s20 s21 b0) (l22_0B x0 x1 x2 x3 s20 s21 b0)).run = some (.normal, ((.d (.int .i64 x0)) :: .top :: (.d (.int .i64 x2)) :: (.d (.bool (x3))) :: .top :: .top :: .top :: .top :: .top :: .top :: (.sr 0 0 ((List.length b0) + 1) 2 none) :: tp8 ((.d (.sl (.pair (.sl (.pair .str .str)) (.int .i64)) x1)) :: (.d (.int .i64 s20)) :: (.d (.int .i64 (IntKind.wrap .i64 (s21 + (1))))) :: tp30 [])), [(.arr (.pair (.sl (.pair .str .str)) (.int .i64)) (b0 ++ [((pkeyG (List.getD x1 (Int.toNat s21) (([] : Q2), 0))), (reckG x0 x2 (List.getD x1 (Int.toNat s21) (([] : Q2), 0)).2).1)]) true)]) := M.run_of_path _ [tT, tT, tT, tT, tT, fF, tT, tT, tT, tT] _ _ (by kernel_rfl) (all_t c0 (all_t c1 (all_t c2 (all_t c3 (all_t c4 (all_f c5 (all_t c6 (all_t rfl (all_t c8 (all_t (show decide ((List.length b0) = (List.length b0)) = true from decide_eq_true rfl) all_nil))))))))))
        refine turns_step ht (turns_eq ?_ ?_ ih)
        · unfold l22_0H
          first | (simp; done) | (simp [Nat.add_assoc]; done) | (simp; omega)
        · unfold l22_0B
          simp
    · skip
      obtain ⟨c4, h⟩ := iY h
      refine ite_cases h (fun c5 h => ?_) (fun c5 h => ?_)
      · skip
        cases h
        refine turns_last (by simp) ?_
        exact M.run_of_path _ [tT, tT, tT, fF, tT, tT] _ _ (by kernel_rfl) (all_t c0 (all_t c1 (all_t c2 (all_f c3 (all_t c4 (all_t c5 all_nil))))))
      · skip
        obtain ⟨c6, h⟩ := iY h
        obtain ⟨c8, h⟩ := iY h
        have ih := ih _ _ _ _ _ _ _ q h
        have ht : (turn (hds 22 3671053) 0 3671053 (cb21 m) (l22_0H x0 x1 x2 x3 s20 s21 b0) (l22_0B x0 x1 x2 x3 s20 s21 b0)).run = some (.normal, ((.d (.int .i64 x0)) :: .top :: (.d (.int .i64 x2)) :: (.d (.bool (x3))) :: .top :: .top :: .top :: .top :: .top :: .top :: (.sr 0 0 ((List.length b0) + 1) 2 none) :: tp8 ((.d (.sl (.pair (.sl (.pair .str .str)) (.int .i64)) x1)) :: (.d (.int .i64 s20)) :: (.d (.int .i64 (IntKind.wrap .i64 (s21 + (1))))) :: tp30 [])), [(.arr (.pair (.sl (.pair .str .str)) (.int .i64)) (b0 ++ [((pkeyG (List.getD x1 (Int.toNat s21) (([] : Q2), 0))), (reckG x0 (List.getD x1 (Int.toNat s21) (([] : Q2), 0)).2 x2).1)]) true)]) := M.run_of_path _ [tT, tT, tT, fF, tT, fF, tT, tT, tT, tT] _ _ (by kernel_rfl) (all_t c0 (all_t c1 (all_t c2 (all_f c3 (all_t c4 (all_f c5 (all_t c6 (all_t rfl (all_t c8 (all_t (show decide ((List.length b0) = (List.length b0)) = true from decide_eq_true rfl) all_nil))))))))))
        refine turns_step ht (turns_eq ?_ ?_ ih)
        · unfold l22_0H
          first | (simp; done) | (simp [Nat.add_assoc]; done) | (simp; omega)
        · unfold l22_0B
          simp
  · skip
    cases h
    refine turns_last (by simp) ?_
    exact M.run_of_path _ [fF] _ _ (by kernel_rfl) (all_f c0 all_nil)
theorem l22_0_ok (m : Nat) : ∀ (n : Nat) (x0 : Int) (x1 : Q0) (x2 : Int) (x3 : Bool) (s20 : Int) (s21 : Int) (b0 : Q0) (q : Nat × Int × (Q0)), l22_0 m n x0 x1 x2 x3 s20 s21 b0 = some q → (turns (hds 22 3671053) 0 3671053 (cb21 m) n (l22_0H x0 x1 x2 x3 s20 s21 b0) (l22_0B x0 x1 x2 x3 s20 s21 b0)).run = some (l22_0E (x0) (x1) (x2) (x3) (s20) (q.2.1) (q.2.2) q.1)
  | 0, x0, x1, x2, x3, s20, s21, b0, q, h => by cases h
  | n + 1, x0, x1, x2, x3, s20, s21, b0, q, h => l22_0_step m n (l22_0_ok m n) x0 x1 x2 x3 s20 s21 b0 q h

def p22 (m : Nat) (x0 : Int) (x1 : Q0) (x2 : Int) (x3 : Bool) : Option ((Q0) × Int) :=
  if vPre x1 = true then
  if (twiceG x1) = true then
    some (([] : Q0), (5))
  else
    if (Option.isSome (l22_0 m (m + 24) x0 x1 x2 x3 ((((List.length x1) : Nat) : Int)) 0 (([] : Q0)))) = true then
    if ((l22_0R m (m + 24) x0 x1 x2 x3 ((((List.length x1) : Nat) : Int)) 0 (([] : Q0))).1 == 0) = true then
      some (([] : Q0), (reckG x0 x2 (List.getD x1 (Int.toNat (l22_0R m (m + 24) x0 x1 x2 x3 ((((List.length x1) : Nat) : Int)) 0 (([] : Q0))).2.1) (([] : Q2), 0)).2).2)
    else
      if ((l22_0R m (m + 24) x0 x1 x2 x3 ((((List.length x1) : Nat) : Int)) 0 (([] : Q0))).1 == 1) = true then
        some (([] : Q0), (reckG x0 (List.getD x1 (Int.toNat (l22_0R m (m + 24) x0 x1 x2 x3 ((((List.length x1) : Nat) : Int)) 0 (([] : Q0))).2.1) (([] : Q2), 0)).2 x2).2)
      else
        if ((l22_0R m (m + 24) x0 x1 x2 x3 ((((List.length x1) : Nat) : Int)) 0 (([] : Q0))).1 == 2) = true then
        if sortPre (List.take (List.length (l22_0R m (m + 24) x0 x1 x2 x3 ((((List.length x1) : Nat) : Int)) 0 (([] : Q0))).2.2) (List.drop 0 (l22_0R m (m + 24) x0 x1 x2 x3 ((((List.length x1) : Nat) : Int)) 0 (([] : Q0))).2.2)) = true then
        some ((sortG (List.take (List.length (l22_0R m (m + 24) x0 x1 x2 x3 ((((List.length x1) : Nat) : Int)) 0 (([] : Q0))).2.2) (List.drop 0 (l22_0R m (m + 24) x0 x1 x2 x3 ((((List.length x1) : Nat) : Int)) 0 (([] : Q0))).2.2))), (0))
        else none
        else none
    else none
  else none
theorem p22_ok (m : Nat) (x0 : Int) (x1 : Q0) (x2 : Int) (x3 : Bool) (q : (Q0) × Int) (h : p22 m x0 x1 x2 x3 = some q) : ∃ r B1, (evCall F S34 (m + 25) 22 [(.d (.int .i64 x0)), (.d (.sl (.pair (.sl (.pair .str .str)) (.int .i64)) x1)), (.d (.int .i64 x2)), (.d (.bool (x3)))] []).run = some (r, B1) ∧ 0 ≤ B1.length ∧ wkR B1 [] r (.tup [(.d (.sl (.pair (.sl (.pair .str .str)) (.int .i64)) q.1)), (.d (.int .i64 q.2))]) ∧ wkBs B1 [] 0 [] := by
  unfold p22 at h
  obtain ⟨c0, h⟩ := iY h
  refine ite_cases h (fun c1 h => ?_) (fun c1 h => ?_)
  · skip
    cases h
    refine ⟨(.tup [(.d (.sl (.pair (.sl (.pair .str .str)) (.int .i64)) ([] : Q0))), (.d (.int .i64 (5)))]), [], runT_ok (LS := (fun k => none)) (fn := fn22) (vis := []) (by kernel_rfl) rfl (by kernel_rfl) (M.run_of_path _ [tT, tT, tT] _ _ (by kernel_rfl) (all_t c0 (all_t c1 (all_t rfl all_nil)))) ?_, by simp, (wkR.tup (wkVs.cons (wkV.one (wk1.eq rfl)) (wkVs.cons (wkV.one (wk1.eq rfl)) wkVs.nil))), trivial⟩
    intro p hp; cases hp
  · skip
    obtain ⟨c2, h⟩ := iY h
    refine ite_cases h (fun c3 h => ?_) (fun c3 h => ?_)
    · skip
      cases h
      refine ⟨(.tup [(.d (.sl (.pair (.sl (.pair .str .str)) (.int .i64)) ([] : Q0))), (.d (.int .i64 (reckG x0 x2 (List.getD x1 (Int.toNat (l22_0R m (m + 24) x0 x1 x2 x3 ((((List.length x1) : Nat) : Int)) 0 (([] : Q0))).2.1) (([] : Q2), 0)).2).2))]), [], runT_ok (LS := (fun k => if k = 3671053 then some (l22_0E x0 x1 x2 x3 (((((List.length x1) : Nat) : Int))) ((l22_0R m (m + 24) x0 x1 x2 x3 ((((List.length x1) : Nat) : Int)) 0 (([] : Q0))).2.1) ((l22_0R m (m + 24) x0 x1 x2 x3 ((((List.length x1) : Nat) : Int)) 0 (([] : Q0))).2.2) 0) else none)) (fn := fn22) (vis := [(3671053, l22_0H x0 x1 x2 x3 ((((List.length x1) : Nat) : Int)) 0 (([] : Q0)), l22_0B x0 x1 x2 x3 ((((List.length x1) : Nat) : Int)) 0 (([] : Q0)))]) (by kernel_rfl) rfl (by kernel_rfl) (M.run_of_path _ [tT, fF, tT] _ _ (by kernel_rfl) (all_t c0 (all_f c1 (all_t rfl all_nil)))) ?_, by simp, (wkR.tup (wkVs.cons (wkV.one (wk1.eq rfl)) (wkVs.cons (wkV.one (wk1.eq rfl)) wkVs.nil))), trivial⟩
      intro p hp p2 hq
      rcases List.mem_cons.1 hp with rfl | hp
      · skip
        have h3 := l22_0_ok m (m + 24) x0 x1 x2 x3 ((((List.length x1) : Nat) : Int)) 0 (([] : Q0)) _ (some_getD (d := l22_0D) c2)
        rw [eq_of_beq c3] at h3
        exact Eq.trans (Eq.mp (by kernel_rfl) h3) hq
      cases hp
    · skip
      refine ite_cases h (fun c4 h => ?_) (fun c4 h => ?_)
      · skip
        cases h
        refine ⟨(.tup [(.d (.sl (.pair (.sl (.pair .str .str)) (.int .i64)) ([] : Q0))), (.d (.int .i64 (reckG x0 (List.getD x1 (Int.toNat (l22_0R m (m + 24) x0 x1 x2 x3 ((((List.length x1) : Nat) : Int)) 0 (([] : Q0))).2.1) (([] : Q2), 0)).2 x2).2))]), [], runT_ok (LS := (fun k => if k = 3671053 then some (l22_0E x0 x1 x2 x3 (((((List.length x1) : Nat) : Int))) ((l22_0R m (m + 24) x0 x1 x2 x3 ((((List.length x1) : Nat) : Int)) 0 (([] : Q0))).2.1) ((l22_0R m (m + 24) x0 x1 x2 x3 ((((List.length x1) : Nat) : Int)) 0 (([] : Q0))).2.2) 1) else none)) (fn := fn22) (vis := [(3671053, l22_0H x0 x1 x2 x3 ((((List.length x1) : Nat) : Int)) 0 (([] : Q0)), l22_0B x0 x1 x2 x3 ((((List.length x1) : Nat) : Int)) 0 (([] : Q0)))]) (by kernel_rfl) rfl (by kernel_rfl) (M.run_of_path _ [tT, fF, tT] _ _ (by kernel_rfl) (all_t c0 (all_f c1 (all_t rfl all_nil)))) ?_, by simp, (wkR.tup (wkVs.cons (wkV.one (wk1.eq rfl)) (wkVs.cons (wkV.one (wk1.eq rfl)) wkVs.nil))), trivial⟩
        intro p hp p2 hq
        rcases List.mem_cons.1 hp with rfl | hp
        · skip
          have h3 := l22_0_ok m (m + 24) x0 x1 x2 x3 ((((List.length x1) : Nat) : Int)) 0 (([] : Q0)) _ (some_getD (d := l22_0D) c2)
          rw [eq_of_beq c4] at h3
          exact Eq.trans (Eq.mp (by kernel_rfl) h3) hq
        cases hp
      · skip
        obtain ⟨c5, h⟩ := iY h
        obtain ⟨c7, h⟩ := iY h
        cases h
        refine ⟨(.tup [(.d (.sl (.pair (.sl (.pair .str .str)) (.int .i64)) (sortG (List.take (List.length (l22_0R m (m + 24) x0 x1 x2 x3 ((((List.length x1) : Nat) : Int)) 0 (([] : Q0))).2.2) (List.drop 0 (l22_0R m (m + 24) x0 x1 x2 x3 ((((List.length x1) : Nat) : Int)) 0 (([] : Q0))).2.2))))), (.d (.int .i64 (0)))]), [], runT_ok (LS := (fun k => if k = 3671053 then some (l22_0E x0 x1 x2 x3 (((((List.length x1) : Nat) : Int))) ((l22_0R m (m + 24) x0 x1 x2 x3 ((((List.length x1) : Nat) : Int)) 0 (([] : Q0))).2.1) ((l22_0R m (m + 24) x0 x1 x2 x3 ((((List.length x1) : Nat) : Int)) 0 (([] : Q0))).2.2) 2) else none)) (fn := fn22) (vis := [(3671053, l22_0H x0 x1 x2 x3 ((((List.length x1) : Nat) : Int)) 0 (([] : Q0)), l22_0B x0 x1 x2 x3 ((((List.length x1) : Nat) : Int)) 0 (([] : Q0)))]) (by kernel_rfl) rfl (by kernel_rfl) (M.run_of_path _ [tT, fF, tT, tT] _ _ (by kernel_rfl) (all_t c0 (all_f c1 (all_t (show decide ((0 + (List.length (l22_0R m (m + 24) x0 x1 x2 x3 ((((List.length x1) : Nat) : Int)) 0 (([] : Q0))).2.2)) ≤ (List.length (l22_0R m (m + 24) x0 x1 x2 x3 ((((List.length x1) : Nat) : Int)) 0 (([] : Q0))).2.2)) = true from decide_eq_true (Nat.le_of_eq (Nat.zero_add _))) (all_t c7 all_nil))))) ?_, by simp, (wkR.tup (wkVs.cons (wkV.one (wk1.eq rfl)) (wkVs.cons (wkV.one (wk1.eq rfl)) wkVs.nil))), trivial⟩
        intro p hp p2 hq
        rcases List.mem_cons.1 hp with rfl | hp
        · skip
          have h3 := l22_0_ok m (m + 24) x0 x1 x2 x3 ((((List.length x1) : Nat) : Int)) 0 (([] : Q0)) _ (some_getD (d := l22_0D) c2)
          rw [eq_of_beq c5] at h3
          exact Eq.trans (Eq.mp (by kernel_rfl) h3) hq
        cases hp

def fErr (c : PT1 → Int) : VL → Int
  | [] => 0
  | p :: r => if c p ≠ 0 then c p else fErr c r
def rkG (kind v : Int) (first : Bool) (p : PT1) : Int × Int := if first = true then reckG kind v p.2 else reckG kind p.2 v
def scaleG (kind : Int) (a : VL) (v : Int) (first : Bool) : VL × Int := if twiceG a = true then ([], 5) else if fErr (fun p => (rkG kind v first p).2) a ≠ 0 then ([], fErr (fun p => (rkG kind v first p).2) a) else (sortG (a.map fun p => (pkeyG p, (rkG kind v first p).1)), 0)
def smallV (a : VL) : Bool := decide (∀ p ∈ a, -1000000 ≤ p.2 ∧ p.2 ≤ 1000000)
def scalePre (a : VL) (v : Int) : Bool := sortPre a && (smallV a && decide (-1000000 ≤ v ∧ v ≤ 1000000))
theorem key_pre {p : PT1} (h : lrightPre p.1 = true) : lrightPre (pkeyG p) = true := by
  obtain ⟨h1, h2⟩ := of_decide_eq_true h
  have := drop_le p.1 [([110, 97, 109, 101] : Q4)]
  exact decide_eq_true ⟨by unfold pkeyG; omega, fun x hx => h2 x (List.mem_filter.1 hx).1⟩
theorem map_pre {a b : VL} (f : PT1 → Int) (h : sortPre a = true) (hl : b.length < 20) (hb : ∀ p ∈ b, p ∈ a) : sortPre (b.map fun p => (pkeyG p, f p)) = true := by
  obtain ⟨h1, h2⟩ := of_decide_eq_true h
  refine decide_eq_true ⟨by rw [List.length_map]; exact hl, fun p hp => ?_⟩
  obtain ⟨q, q1, rfl⟩ := List.mem_map.1 hp
  exact key_pre (h2 q (hb q q1))
theorem scale_loop (m : Nat) (kind : Int) (a : VL) (v : Int) (first : Bool) (ha : sortPre a = true) (hs : ∀ p ∈ a, -1000000 ≤ p.2 ∧ p.2 ≤ 1000000) (hv : -1000000 ≤ v ∧ v ≤ 1000000) : ∀ (n k : Nat) (out : VL), k ≤ a.length → a.length - k < n → out.length ≤ k →
    (∃ j out', l22_0 m n kind a v first ((a.length : Nat) : Int) (k : Nat) out = some (if first = true then 0 else 1, ((j : Nat) : Int), out') ∧ (rkG kind v first (a.getD j (([] : LB), 0))).2 = fErr (fun p => (rkG kind v first p).2) (a.drop k) ∧ fErr (fun p => (rkG kind v first p).2) (a.drop k) ≠ 0) ∨
    (fErr (fun p => (rkG kind v first p).2) (a.drop k) = 0 ∧ ∃ j, l22_0 m n kind a v first ((a.length : Nat) : Int) (k : Nat) out = some (2, j, out ++ (a.drop k).map fun p => (pkeyG p, (rkG kind v first p).1)))
  | 0, k, _, _, h, _ => by omega
  | n + 1, k, out, h1, h2, h3 => by
    rw [l22_0]
    obtain ⟨a1, a2⟩ := of_decide_eq_true ha
    by_cases hk : k < a.length
    · have e1 : decide (((k : Nat) : Int) < (((List.length a) : Nat) : Int)) = true := decide_eq_true (by omega)
      have e2 : decide ((0 : Int) ≤ ((k : Nat) : Int)) = true := decide_eq_true (by omega)
      have e4 : decide ((((List.length out) + 1) * 32) ≤ 70368744177664) = true := decide_eq_true (by omega)
      have e7 : IntKind.wrap .i64 (((k : Nat) : Int) + (1)) = ((k + 1 : Nat) : Int) := by rw [wrap_id (by omega) (by omega)]; rfl
      have hq := (of_decide_eq_true (a2 _ (getD_mem a k (([] : LB), 0) hk))).1
      have hb := hs _ (getD_mem a k (([] : LB), 0) hk)
      rw [drop_getD a k (([] : LB), 0) hk, show Int.toNat ((k : Nat) : Int) = k from rfl, e7, if_pos e1, if_pos e2, if_pos e1, fErr, List.map_cons]
      generalize hQ : a.getD k (([] : LB), 0) = q at hq hb
      have ih := fun out' h => scale_loop m kind a v first ha hs hv n (k + 1) out' (by omega) (by omega) h
      have r1 : reckPre v q.2 = true := decide_eq_true (by omega)
      have r2 : reckPre q.2 v = true := decide_eq_true (by omega)
      have go : ∀ r : Int × Int, rkG kind v first q = r → (r.2 ≠ 0 → (∃ j out', some (if first = true then (0 : Nat) else 1, ((k : Nat) : Int), out) = some (if first = true then (0 : Nat) else 1, ((j : Nat) : Int), out') ∧ (rkG kind v first (a.getD j (([] : LB), 0))).2 = r.2)) := fun r hr hne => ⟨k, out, rfl, by rw [hQ, hr]⟩
      have nxt : (rkG kind v first q).2 = 0 → (∃ j out', l22_0 m n kind a v first ((a.length : Nat) : Int) ((k + 1 : Nat) : Int) (out ++ [(pkeyG q, (rkG kind v first q).1)]) = some (if first = true then 0 else 1, ((j : Nat) : Int), out') ∧ (rkG kind v first (a.getD j (([] : LB), 0))).2 = (if (rkG kind v first q).2 ≠ 0 then (rkG kind v first q).2 else fErr (fun p => (rkG kind v first p).2) (a.drop (k + 1))) ∧ (if (rkG kind v first q).2 ≠ 0 then (rkG kind v first q).2 else fErr (fun p => (rkG kind v first p).2) (a.drop (k + 1))) ≠ 0) ∨ ((if (rkG kind v first q).2 ≠ 0 then (rkG kind v first q).2 else fErr (fun p => (rkG kind v first p).2) (a.drop (k + 1))) = 0 ∧ ∃ j, l22_0 m n kind a v first ((a.length : Nat) : Int) ((k + 1 : Nat) : Int) (out ++ [(pkeyG q, (rkG kind v first q).1)]) = some (2, j, out ++ ((pkeyG q, (rkG kind v first q).1) :: (a.drop (k + 1)).map fun p => (pkeyG p, (rkG kind v first p).1)))) := fun h0 => by
        have hne : ¬ ((rkG kind v first q).2 ≠ 0) := fun z => z h0
        simp only [if_neg hne]
        rcases ih (out ++ [(pkeyG q, (rkG kind v first q).1)]) (by simp; omega) with h | ⟨h, j, hj⟩
        · exact .inl h
        · exact .inr ⟨h, j, by rw [hj]; simp⟩
      cases first with
      | true =>
        have hr : rkG kind v true q = reckG kind v q.2 := rfl
        rw [hr] at nxt ⊢
        rw [if_pos rfl, if_pos r1]
        by_cases hc : (reckG kind v q.2).2 = 0
        · have : ((reckG kind v q.2).2 != 0) = false := by rw [hc]; rfl
          rw [this, if_neg (by simp), if_pos (decide_eq_true hq), if_pos e4]
          exact nxt hc
        · have : ((reckG kind v q.2).2 != 0) = true := by rw [bne_iff_ne]; exact hc
          rw [if_pos this, if_pos hc]
          exact .inl ⟨k, out, rfl, by rw [hQ, hr], hc⟩
      | false =>
        have hr : rkG kind v false q = reckG kind q.2 v := rfl
        rw [hr] at nxt ⊢
        rw [if_neg (by simp), if_pos r2]
        by_cases hc : (reckG kind q.2 v).2 = 0
        · have : ((reckG kind q.2 v).2 != 0) = false := by rw [hc]; rfl
          rw [this, if_neg (by simp), if_pos (decide_eq_true hq), if_pos e4]
          exact nxt hc
        · have : ((reckG kind q.2 v).2 != 0) = true := by rw [bne_iff_ne]; exact hc
          rw [if_pos this, if_pos hc]
          exact .inl ⟨k, out, rfl, by rw [hQ, hr], hc⟩
    · have e1 : decide (((k : Nat) : Int) < (((List.length a) : Nat) : Int)) = false := decide_eq_false (by omega)
      rw [e1, if_neg (by simp), List.drop_eq_nil_of_le (by omega)]
      exact .inr ⟨rfl, ((k : Nat) : Int), by simp⟩
theorem scale22 (kind : Int) (a : VL) (v : Int) (first : Bool) (h : scalePre a v = true) : ∃ m, p22 m kind a v first = some (scaleG kind a v first) := by
  unfold scalePre at h
  rw [Bool.and_eq_true, Bool.and_eq_true] at h
  obtain ⟨ha, hs, hv⟩ := h
  have hs := of_decide_eq_true hs
  have hv := of_decide_eq_true hv
  refine ⟨a.length, ?_⟩
  unfold p22 scaleG
  rw [if_pos (sort_v ha)]
  by_cases t1 : twiceG a = true
  · rw [if_pos t1, if_pos t1]
  · rw [if_neg t1, if_neg t1]
    unfold l22_0R
    rcases scale_loop a.length kind a v first ha hs hv (a.length + 24) 0 [] (by omega) (by omega) (by simp) with ⟨j, out, hr, h1, h2⟩ | ⟨h1, j, hr⟩
    · rw [Int.natCast_zero] at hr
      rw [List.drop_zero] at h1 h2
      rw [hr, if_pos h2, ← h1]
      cases first <;> rfl
    · rw [Int.natCast_zero, List.drop_zero, List.nil_append] at hr
      rw [List.drop_zero] at h1
      have hne : ¬ (fErr (fun p => (rkG kind v first p).2) a ≠ 0) := fun z => z h1
      rw [hr, if_neg hne]
      have hp := map_pre (b := a) (fun p => (rkG kind v first p).1) ha (of_decide_eq_true ha).1 (fun p h => h)
      have z0 : ((2 : Nat) == 0) = false := rfl
      have z1 : ((2 : Nat) == 1) = false := rfl
      simp only [Option.isSome_some, Option.getD_some, ↓reduceIte, List.drop_zero, List.take_length, hp, z0, z1, beq_self_eq_true, Bool.false_eq_true]
def s22 : List AV → Boxes → M (AV × Boxes) := normS [.val (.int .i64), .val (.sl (.pair (.sl (.pair .str .str)) (.int .i64))), .val (.int .i64), .val .bool] [] fun xs B => match xs, B with
  | [(.d (.int .i64 c1)), (.d (.sl (.pair (.sl (.pair .str .str)) (.int .i64)) c2)), (.d (.int .i64 c3)), (.d (.bool c4))], [] => .chk (scalePre c2 c3) (.ret ((.tup [(.d (.sl (.pair (.sl (.pair .str .str)) (.int .i64)) (scaleG c1 c2 c3 c4).1)), (.d (.int .i64 (scaleG c1 c2 c3 c4).2))]), []))
  | _, _ => .fail
theorem s22_at : CallAt Tryd.prog 22 s22 := by
  refine CallAt.norm (CallAt.weakE (g := fun n => evCall F S34 n 22) (fun n => evCall_atH mixed kinds hds S34 S34_ok n 22) fun xs B r' B' hr => ?_) _ _
  split at hr
  · rename_i c1 c2 c3 c4
    obtain ⟨hp, hr⟩ := (M.run_chk _ _ _).1 hr
    simp only [M.run, Option.some.injEq, Prod.mk.injEq] at hr
    obtain ⟨rfl, rfl⟩ := hr
    obtain ⟨m, hm⟩ := scale22 c1 c2 c3 c4 hp
    obtain ⟨r, B1, h1, h2, h3, h4⟩ := p22_ok m c1 c2 c3 c4 _ hm
    exact ⟨m + 25, r, B1, h1, by simp, h2, h3, h4⟩
  · simp [M.run] at hr
noncomputable def S35 : FuncId → Option (List AV → Boxes → M (AV × Boxes)) := fun f => if f = 22 then some s22 else S34 f
theorem S35_ok : ∀ f s, S35 f = some s → CallAt Tryd.prog f s := by
  intro f s h
  unfold S35 at h
  split at h
  · rename_i e; subst e; cases h; exact s22_at
  · exact S34_ok f s h

end Go.Proofs.YtahdcmicifokgaaDoor.Dec
namespace Go.Proofs.YtahdcmicifokgaaDoor.Dec
open Go.Ev
set_option linter.unusedVariables false
set_option linter.unusedSimpArgs false
set_option maxRecDepth 100000
set_option maxHeartbeats 20000000
noncomputable def fn23 : AFn := (F 23).getD ⟨0, [], .bad, false, false, noHd⟩
noncomputable def body23 : AC := fn23.body
def l23_0 (m : Nat) : Nat → Int → Q0 → Q0 → Int → Int → Q0 → Option (Nat × Int × (Q0))
  | 0, _, _, _, _, _, _ => none
  | n + 1, x0, x1, x2, s22, s23, b0 => if decide (s23 < s22) = true then
      if decide (0 ≤ s23) = true then
      if decide (s23 < (((List.length x1) : Nat) : Int)) = true then
      if decide (List.length (List.getD x1 (Int.toNat s23) (([] : Q2), 0)).1 ≤ 1000000) = true then
      if findPre x2 (pkeyG (List.getD x1 (Int.toNat s23) (([] : Q2), 0))) = true then
      if decide ((findG x2 (pkeyG (List.getD x1 (Int.toNat s23) (([] : Q2), 0)))) < 0) = true then
        l23_0 m n x0 x1 x2 s22 ((IntKind.wrap .i64 (s23 + (1)))) b0
      else
        if decide (0 ≤ (findG x2 (pkeyG (List.getD x1 (Int.toNat s23) (([] : Q2), 0))))) = true then
        if decide ((findG x2 (pkeyG (List.getD x1 (Int.toNat s23) (([] : Q2), 0)))) < (((List.length x2) : Nat) : Int)) = true then
        if reckPre (List.getD x1 (Int.toNat s23) (([] : Q2), 0)).2 (List.getD x2 (Int.toNat (findG x2 (pkeyG (List.getD x1 (Int.toNat s23) (([] : Q2), 0))))) (([] : Q2), 0)).2 = true then
        if ((reckG x0 (List.getD x1 (Int.toNat s23) (([] : Q2), 0)).2 (List.getD x2 (Int.toNat (findG x2 (pkeyG (List.getD x1 (Int.toNat s23) (([] : Q2), 0))))) (([] : Q2), 0)).2).2 != (0)) = true then
          some (0, s23, b0)
        else
          if decide ((((List.length b0) + 1) * 32) ≤ 70368744177664) = true then
          l23_0 m n x0 x1 x2 s22 ((IntKind.wrap .i64 (s23 + (1)))) ((b0 ++ [((pkeyG (List.getD x1 (Int.toNat s23) (([] : Q2), 0))), (reckG x0 (List.getD x1 (Int.toNat s23) (([] : Q2), 0)).2 (List.getD x2 (Int.toNat (findG x2 (pkeyG (List.getD x1 (Int.toNat s23) (([] : Q2), 0))))) (([] : Q2), 0)).2).1)]))
          else none
        else none
        else none
        else none
      else none
      else none
      else none
      else none
    else
      some (1, s23, b0)
def l23_0D : Nat × Int × (Q0) := (0, 0, [])
@[reducible] def l23_0R (m n : Nat) (x0 : Int) (x1 : Q0) (x2 : Q0) (s22 : Int) (s23 : Int) (b0 : Q0) : Nat × Int × (Q0) := Option.getD (l23_0 m n x0 x1 x2 s22 s23 b0) l23_0D
def l23_0H (x0 : Int) (x1 : Q0) (x2 : Q0) (s22 : Int) (s23 : Int) (b0 : Q0) : Env := ((.d (.int .i64 x0)) :: .top :: (.d (.sl (.pair (.sl (.pair .str .str)) (.int .i64)) x2)) :: .top :: .top :: .top :: .top :: .top :: (.sr 0 0 (List.length b0) 2 none) :: tp12 ((.d (.sl (.pair (.sl (.pair .str .str)) (.int .i64)) x1)) :: (.d (.int .i64 s22)) :: (.d (.int .i64 s23)) :: tp34 []))
def l23_0B (x0 : Int) (x1 : Q0) (x2 : Q0) (s22 : Int) (s23 : Int) (b0 : Q0) : Boxes := [(.arr (.pair (.sl (.pair .str .str)) (.int .i64)) b0 true)]
def l23_0E (x0 : Int) (x1 : Q0) (x2 : Q0) (s22 : Int) (s23 : Int) (b0 : Q0) : Nat → AEx × Env × Boxes
  | 0 => (.ret, ((.d (.int .i64 x0)) :: .top :: (.d (.sl (.pair (.sl (.pair .str .str)) (.int .i64)) x2)) :: .top :: .top :: .top :: (.sr 58 0 0 2 none) :: (.d (.int .i64 (reckG x0 (List.getD x1 (Int.toNat s23) (([] : Q2), 0)).2 (List.getD x2 (Int.toNat (findG x2 (pkeyG (List.getD x1 (Int.toNat s23) (([] : Q2), 0))))) (([] : Q2), 0)).2).2)) :: (.sr 0 0 (List.length b0) 2 none) :: .top :: (.ptr 1 0) :: (.d (.sl (.pair .str .str) (pkeyG (List.getD x1 (Int.toNat s23) (([] : Q2), 0))))) :: (.d (.int .i64 (findG x2 (pkeyG (List.getD x1 (Int.toNat s23) (([] : Q2), 0)))))) :: (.d (.int .i64 (reckG x0 (List.getD x1 (Int.toNat s23) (([] : Q2), 0)).2 (List.getD x2 (Int.toNat (findG x2 (pkeyG (List.getD x1 (Int.toNat s23) (([] : Q2), 0))))) (([] : Q2), 0)).2).1)) :: (.d (.int .i64 (reckG x0 (List.getD x1 (Int.toNat s23) (([] : Q2), 0)).2 (List.getD x2 (Int.toNat (findG x2 (pkeyG (List.getD x1 (Int.toNat s23) (([] : Q2), 0))))) (([] : Q2), 0)).2).2)) :: .top :: .top :: .top :: .top :: .top :: .top :: (.d (.sl (.pair (.sl (.pair .str .str)) (.int .i64)) x1)) :: (.d (.int .i64 s22)) :: (.d (.int .i64 s23)) :: (.d (.bool (decide (s23 < s22)))) :: (.cptr [(.sl (.pair .str .str) (List.getD x1 (Int.toNat s23) (([] : Q2), 0)).1), (.int .i64 (List.getD x1 (Int.toNat s23) (([] : Q2), 0)).2)] 0) :: (.agg [(.d (.sl (.pair .str .str) (List.getD x1 (Int.toNat s23) (([] : Q2), 0)).1)), (.d (.int .i64 (List.getD x1 (Int.toNat s23) (([] : Q2), 0)).2))]) :: (.agg [(.d (.sl (.pair .str .str) (List.getD x1 (Int.toNat s23) (([] : Q2), 0)).1)), (.d (.int .i64 (List.getD x1 (Int.toNat s23) (([] : Q2), 0)).2))]) :: (.d (.sl (.pair .str .str) (pkeyG (List.getD x1 (Int.toNat s23) (([] : Q2), 0))))) :: (.d (.sl (.pair (.sl (.pair .str .str)) (.int .i64)) x2)) :: (.d (.sl (.pair .str .str) (pkeyG (List.getD x1 (Int.toNat s23) (([] : Q2), 0))))) :: (.d (.int .i64 (findG x2 (pkeyG (List.getD x1 (Int.toNat s23) (([] : Q2), 0)))))) :: (.d (.int .i64 (findG x2 (pkeyG (List.getD x1 (Int.toNat s23) (([] : Q2), 0)))))) :: (.d (.bool (decide ((findG x2 (pkeyG (List.getD x1 (Int.toNat s23) (([] : Q2), 0)))) < 0)))) :: (.tup [(.d (.int .i64 (reckG x0 (List.getD x1 (Int.toNat s23) (([] : Q2), 0)).2 (List.getD x2 (Int.toNat (findG x2 (pkeyG (List.getD x1 (Int.toNat s23) (([] : Q2), 0))))) (([] : Q2), 0)).2).1)), (.d (.int .i64 (reckG x0 (List.getD x1 (Int.toNat s23) (([] : Q2), 0)).2 (List.getD x2 (Int.toNat (findG x2 (pkeyG (List.getD x1 (Int.toNat s23) (([] : Q2), 0))))) (([] : Q2), 0)).2).2))]) :: (.d (.int .i64 x0)) :: (.ptr 1 1) :: (.d (.int .i64 (List.getD x1 (Int.toNat s23) (([] : Q2), 0)).2)) :: (.d (.sl (.pair (.sl (.pair .str .str)) (.int .i64)) x2)) :: (.d (.int .i64 (findG x2 (pkeyG (List.getD x1 (Int.toNat s23) (([] : Q2), 0)))))) :: (.cptr [(.sl (.pair .str .str) (List.getD x2 (Int.toNat (findG x2 (pkeyG (List.getD x1 (Int.toNat s23) (([] : Q2), 0))))) (([] : Q2), 0)).1), (.int .i64 (List.getD x2 (Int.toNat (findG x2 (pkeyG (List.getD x1 (Int.toNat s23) (([] : Q2), 0))))) (([] : Q2), 0)).2)] 0) :: (.cptr [(.sl (.pair .str .str) (List.getD x2 (Int.toNat (findG x2 (pkeyG (List.getD x1 (Int.toNat s23) (([] : Q2), 0))))) (([] : Q2), 0)).1), (.int .i64 (List.getD x2 (Int.toNat (findG x2 (pkeyG (List.getD x1 (Int.toNat s23) (([] : Q2), 0))))) (([] : Q2), 0)).2)] 1) :: (.d (.int .i64 (List.getD x2 (Int.toNat (findG x2 (pkeyG (List.getD x1 (Int.toNat s23) (([] : Q2), 0))))) (([] : Q2), 0)).2)) :: (.tup [(.d (.int .i64 (reckG x0 (List.getD x1 (Int.toNat s23) (([] : Q2), 0)).2 (List.getD x2 (Int.toNat (findG x2 (pkeyG (List.getD x1 (Int.toNat s23) (([] : Q2), 0))))) (([] : Q2), 0)).2).1)), (.d (.int .i64 (reckG x0 (List.getD x1 (Int.toNat s23) (([] : Q2), 0)).2 (List.getD x2 (Int.toNat (findG x2 (pkeyG (List.getD x1 (Int.toNat s23) (([] : Q2), 0))))) (([] : Q2), 0)).2).2))]) :: (.d (.int .i64 (reckG x0 (List.getD x1 (Int.toNat s23) (([] : Q2), 0)).2 (List.getD x2 (Int.toNat (findG x2 (pkeyG (List.getD x1 (Int.toNat s23) (([] : Q2), 0))))) (([] : Q2), 0)).2).1)) :: (.d (.int .i64 (reckG x0 (List.getD x1 (Int.toNat s23) (([] : Q2), 0)).2 (List.getD x2 (Int.toNat (findG x2 (pkeyG (List.getD x1 (Int.toNat s23) (([] : Q2), 0))))) (([] : Q2), 0)).2).2)) :: (.d (.int .i64 (reckG x0 (List.getD x1 (Int.toNat s23) (([] : Q2), 0)).2 (List.getD x2 (Int.toNat (findG x2 (pkeyG (List.getD x1 (Int.toNat s23) (([] : Q2), 0))))) (([] : Q2), 0)).2).2)) :: (.d (.bool ((reckG x0 (List.getD x1 (Int.toNat s23) (([] : Q2), 0)).2 (List.getD x2 (Int.toNat (findG x2 (pkeyG (List.getD x1 (Int.toNat s23) (([] : Q2), 0))))) (([] : Q2), 0)).2).2 != (0)))) :: (.d (.int .i64 (reckG x0 (List.getD x1 (Int.toNat s23) (([] : Q2), 0)).2 (List.getD x2 (Int.toNat (findG x2 (pkeyG (List.getD x1 (Int.toNat s23) (([] : Q2), 0))))) (([] : Q2), 0)).2).2)) :: tp9 []), [(.arr (.pair (.sl (.pair .str .str)) (.int .i64)) b0 true), (.cells [(.d (.sl (.pair .str .str) (List.getD x1 (Int.toNat s23) (([] : Q2), 0)).1)), (.d (.int .i64 (List.getD x1 (Int.toNat s23) (([] : Q2), 0)).2))]), .dead, .dead, .dead, .dead, .dead, .dead, .dead, .dead, .dead, .dead, .dead, .dead, .dead, .dead, .dead, .dead, .dead, .dead, .dead, .dead, .dead, .dead, .dead, .dead, .dead, .dead, .dead, .dead, .dead, .dead, .dead, .dead, .dead, .dead, .dead, .dead, .dead, .dead, .dead, .dead, .dead, .dead, .dead, .dead, .dead, .dead, .dead, .dead, .dead, .dead, .dead, .dead, .dead, .dead, .dead, .dead, (.arr (.pair (.sl (.pair .str .str)) (.int .i64)) ([] : Q0) true)])
  | _ => (.exit 0, ((.d (.int .i64 x0)) :: .top :: (.d (.sl (.pair (.sl (.pair .str .str)) (.int .i64)) x2)) :: .top :: .top :: .top :: .top :: .top :: (.sr 0 0 (List.length b0) 2 none) :: tp12 ((.d (.sl (.pair (.sl (.pair .str .str)) (.int .i64)) x1)) :: (.d (.int .i64 s22)) :: (.d (.int .i64 s23)) :: (.d (.bool (decide (s23 < s22)))) :: tp33 [])), [(.arr (.pair (.sl (.pair .str .str)) (.int .i64)) b0 true)])
noncomputable def lbl23_0 : AC := loopBody 14680325 body23
@[reducible] noncomputable def cb22 (m : Nat) := (evC byref (evCall F S35 (m + 24)) (m + 24) 0 (hds 23) lbl23_0)


theorem l23_0_step (m n : Nat) (ih : ∀ (x0 : Int) (x1 : Q0) (x2 : Q0) (s22 : Int) (s23 : Int) (b0 : Q0) (q : Nat × Int × (Q0)), l23_0 m n x0 x1 x2 s22 s23 b0 = some q → (turns (hds 23 14680325) 0 14680325 (cb22 m) n (l23_0H x0 x1 x2 s22 s23 b0) (l23_0B x0 x1 x2 s22 s23 b0)).run = some (l23_0E (x0) (x1) (x2) (s22) (q.2.1) (q.2.2) q.1)) (x0 : Int) (x1 : Q0) (x2 : Q0) (s22 : Int) (s23 : Int) (b0 : Q0) (q : Nat × Int × (Q0)) (h : l23_0 m (n + 1) x0 x1 x2 s22 s23 b0 = some q) : (turns (hds 23 14680325) 0 14680325 (cb22 m) (n + 1) (l23_0H x0 x1 x2 s22 s23 b0) (l23_0B x0 x1 x2 s22 s23 b0)).run = some (l23_0E (x0) (x1) (x2) (s22) (q.2.1) (q.2.2) q.1) := by
  rw [l23_0] at h
  refine ite_cases h (fun c0 h => ?_) (fun c0 h => ?_)
  · skip
    obtain ⟨c1, h⟩ := iY h
    obtain ⟨c2, h⟩ := iY h
    obtain ⟨c3, h⟩ := iY h
    obtain ⟨c4, h⟩ := iY h
    refine ite_cases h (fun c5 h => ?_) (fun c5 h => ?_)
    · skip
      have ih := ih _ _ _ _ _ _ q h
      refine turns_step ?_ ih
      exact M.run_of_path _ [tT, tT, tT, tT, tT, tT] _ _ (by kernel_rfl) (all_t c0 (all_t c1 (all_t c2 (all_t c3 (all_t c4 (all_t c5 all_nil))))))
    · skip
      obtain ⟨c6, h⟩ := iY h
      obtain ⟨c7, h⟩ := iY h
      obtain ⟨c8, h⟩ := iY h
      refine ite_cases h (fun c9 h => ?_) (fun c9 h => ?_)
      · skip
        cases h
        refine turns_last (by simp) ?_
        exact M.run_of_path _ [tT, tT, tT, tT, tT, fF, tT, tT, tT, tT] _ _ (by kernel_rfl) (all_t c0 (all_t c1 (all_t c2 (all_t c3 (all_t c4 (all_f c5 (all_t c6 (all_t c7 (all_t c8 (all_t c9 all_nil))))))))))
      · skip
        obtain ⟨c11, h⟩ := iY h
        have ih := ih _ _ _ _ _ _ q h
        have ht : (turn (hds 23 14680325) 0 14680325 (cb22 m) (l23_0H x0 x1 x2 s22 s23 b0) (l23_0B x0 x1 x2 s22 s23 b0)).run = some (.normal, ((.d (.int .i64 x0)) :: .top :: (.d (.sl (.pair (.sl (.pair .str .str)) (.int .i64)) x2)) :: .top :: .top :: .top :: .top :: .top :: (.sr 0 0 ((List.length b0) + 1) 2 none) :: tp12 ((.d (.sl (.pair (.sl (.pair .str .str)) (.int .i64)) x1)) :: (.d (.int .i64 s22)) :: (.d (.int .i64 (IntKind.wrap .i64 (s23 + (1))))) :: tp34 [])), [(.arr (.pair (.sl (.pair .str .str)) (.int .i64)) (b0 ++ [((pkeyG (List.getD x1 (Int.toNat s23) (([] : Q2), 0))), (reckG x0 (List.getD x1 (Int.toNat s23) (([] : Q2), 0)).2 (List.getD x2 (Int.toNat (findG x2 (pkeyG (List.getD x1 (Int.toNat s23) (([] : Q2), 0))))) (([] : Q2), 0)).2).1)]) true)]) := M.run_of_path _ [tT, tT, tT, tT, tT, fF, tT, tT, tT, fF, tT, tT, tT] _ _ (by kernel_rfl) (all_t c0 (all_t c1 (all_t c2 (all_t c3 (all_t c4 (all_f c5 (all_t c6 (all_t c7 (all_t c8 (all_f c9 (all_t rfl (all_t c11 (all_t (show decide ((List.length b0) = (List.length b0)) = true from decide_eq_true rfl) all_nil)))))))))))))
        refine turns_step ht (turns_eq ?_ ?_ ih)
        · unfold l23_0H
          first | (simp; done) | (simp [Nat.add_assoc]; done) | (simp; omega)
        · unfold l23_0B
          simp
  · skip
    cases h
    refine turns_last (by simp) ?_
    exact M.run_of_path _ [fF] _ _ (by kernel_rfl) (all_f c0 all_nil)
theorem l23_0_ok (m : Nat) : ∀ (n : Nat) (x0 : Int) (x1 : Q0) (x2 : Q0) (s22 : Int) (s23 : Int) (b0 : Q0) (q : Nat × Int × (Q0)), l23_0 m n x0 x1 x2 s22 s23 b0 = some q → (turns (hds 23 14680325) 0 14680325 (cb22 m) n (l23_0H x0 x1 x2 s22 s23 b0) (l23_0B x0 x1 x2 s22 s23 b0)).run = some (l23_0E (x0) (x1) (x2) (s22) (q.2.1) (q.2.2) q.1)
  | 0, x0, x1, x2, s22, s23, b0, q, h => by cases h
  | n + 1, x0, x1, x2, s22, s23, b0, q, h => l23_0_step m n (l23_0_ok m n) x0 x1 x2 s22 s23 b0 q h

def p23 (m : Nat) (x0 : Int) (x1 : Q0) (x2 : Q0) : Option ((Q0) × Int) :=
  if vPre x1 = true then
  if (twiceG x1) = true then
    some (([] : Q0), (5))
  else
    if vPre x2 = true then
    if (twiceG x2) = true then
      some (([] : Q0), (5))
    else
      if (Option.isSome (l23_0 m (m + 24) x0 x1 x2 ((((List.length x1) : Nat) : Int)) 0 (([] : Q0)))) = true then
      if ((l23_0R m (m + 24) x0 x1 x2 ((((List.length x1) : Nat) : Int)) 0 (([] : Q0))).1 == 0) = true then
        some (([] : Q0), (reckG x0 (List.getD x1 (Int.toNat (l23_0R m (m + 24) x0 x1 x2 ((((List.length x1) : Nat) : Int)) 0 (([] : Q0))).2.1) (([] : Q2), 0)).2 (List.getD x2 (Int.toNat (findG x2 (pkeyG (List.getD x1 (Int.toNat (l23_0R m (m + 24) x0 x1 x2 ((((List.length x1) : Nat) : Int)) 0 (([] : Q0))).2.1) (([] : Q2), 0))))) (([] : Q2), 0)).2).2)
      else
        if ((l23_0R m (m + 24) x0 x1 x2 ((((List.length x1) : Nat) : Int)) 0 (([] : Q0))).1 == 1) = true then
        if sortPre (List.take (List.length (l23_0R m (m + 24) x0 x1 x2 ((((List.length x1) : Nat) : Int)) 0 (([] : Q0))).2.2) (List.drop 0 (l23_0R m (m + 24) x0 x1 x2 ((((List.length x1) : Nat) : Int)) 0 (([] : Q0))).2.2)) = true then
        some ((sortG (List.take (List.length (l23_0R m (m + 24) x0 x1 x2 ((((List.length x1) : Nat) : Int)) 0 (([] : Q0))).2.2) (List.drop 0 (l23_0R m (m + 24) x0 x1 x2 ((((List.length x1) : Nat) : Int)) 0 (([] : Q0))).2.2))), (0))
        else none
        else none
      else none
    else none
  else none
theorem p23_ok (m : Nat) (x0 : Int) (x1 : Q0) (x2 : Q0) (q : (Q0) × Int) (h : p23 m x0 x1 x2 = some q) : ∃ r B1, (evCall F S35 (m + 25) 23 [(.d (.int .i64 x0)), (.d (.sl (.pair (.sl (.pair .str .str)) (.int .i64)) x1)), (.d (.sl (.pair (.sl (.pair .str .str)) (.int .i64)) x2))] []).run = some (r, B1) ∧ 0 ≤ B1.length ∧ wkR B1 [] r (.tup [(.d (.sl (.pair (.sl (.pair .str .str)) (.int .i64)) q.1)), (.d (.int .i64 q.2))]) ∧ wkBs B1 [] 0 [] := by
  unfold p23 at h
  obtain ⟨c0, h⟩ := iY h
  refine ite_cases h (fun c1 h => ?_) (fun c1 h => ?_)
  · skip
    cases h
    refine ⟨(.tup [(.d (.sl (.pair (.sl (.pair .str .str)) (.int .i64)) ([] : Q0))), (.d (.int .i64 (5)))]), [], runT_ok (LS := (fun k => none)) (fn := fn23) (vis := []) (by kernel_rfl) rfl (by kernel_rfl) (M.run_of_path _ [tT, tT, tT, tT, tT, tT] _ _ (by kernel_rfl) (all_t c0 (all_t c1 (all_t c1 (all_t c1 (all_t rfl (all_t rfl all_nil))))))) ?_, by simp, (wkR.tup (wkVs.cons (wkV.one (wk1.eq rfl)) (wkVs.cons (wkV.one (wk1.eq rfl)) wkVs.nil))), trivial⟩
    intro p hp; cases hp
  · skip
    obtain ⟨c3, h⟩ := iY h
    refine ite_cases h (fun c5 h => ?_) (fun c5 h => ?_)
    · skip
      cases h
      refine ⟨(.tup [(.d (.sl (.pair (.sl (.pair .str .str)) (.int .i64)) ([] : Q0))), (.d (.int .i64 (5)))]), [], runT_ok (LS := (fun k => none)) (fn := fn23) (vis := []) (by kernel_rfl) rfl (by kernel_rfl) (M.run_of_path _ [tT, fF, fF, tT, fF, tT, tT] _ _ (by kernel_rfl) (all_t c0 (all_f c1 (all_f c1 (all_t c3 (all_f c1 (all_t c5 (all_t rfl all_nil)))))))) ?_, by simp, (wkR.tup (wkVs.cons (wkV.one (wk1.eq rfl)) (wkVs.cons (wkV.one (wk1.eq rfl)) wkVs.nil))), trivial⟩
      intro p hp; cases hp
    · skip
      obtain ⟨c6, h⟩ := iY h
      refine ite_cases h (fun c7 h => ?_) (fun c7 h => ?_)
      · skip
        cases h
        refine ⟨(.tup [(.d (.sl (.pair (.sl (.pair .str .str)) (.int .i64)) ([] : Q0))), (.d (.int .i64 (reckG x0 (List.getD x1 (Int.toNat (l23_0R m (m + 24) x0 x1 x2 ((((List.length x1) : Nat) : Int)) 0 (([] : Q0))).2.1) (([] : Q2), 0)).2 (List.getD x2 (Int.toNat (findG x2 (pkeyG (List.getD x1 (Int.toNat (l23_0R m (m + 24) x0 x1 x2 ((((List.length x1) : Nat) : Int)) 0 (([] : Q0))).2.1) (([] : Q2), 0))))) (([] : Q2), 0)).2).2))]), [], runT_ok (LS := (fun k => if k = 14680325 then some (l23_0E x0 x1 x2 (((((List.length x1) : Nat) : Int))) ((l23_0R m (m + 24) x0 x1 x2 ((((List.length x1) : Nat) : Int)) 0 (([] : Q0))).2.1) ((l23_0R m (m + 24) x0 x1 x2 ((((List.length x1) : Nat) : Int)) 0 (([] : Q0))).2.2) 0) else none)) (fn := fn23) (vis := [(14680325, l23_0H x0 x1 x2 ((((List.length x1) : Nat) : Int)) 0 (([] : Q0)), l23_0B x0 x1 x2 ((((List.length x1) : Nat) : Int)) 0 (([] : Q0)))]) (by kernel_rfl) rfl (by kernel_rfl) (M.run_of_path _ [tT, fF, fF, tT, fF, fF, tT] _ _ (by kernel_rfl) (all_t c0 (all_f c1 (all_f c1 (all_t c3 (all_f c1 (all_f c5 (all_t rfl all_nil)))))))) ?_, by simp, (wkR.tup (wkVs.cons (wkV.one (wk1.eq rfl)) (wkVs.cons (wkV.one (wk1.eq rfl)) wkVs.nil))), trivial⟩
        intro p hp p2 hq
        rcases List.mem_cons.1 hp with rfl | hp
        · skip
          have h3 := l23_0_ok m (m + 24) x0 x1 x2 ((((List.length x1) : Nat) : Int)) 0 (([] : Q0)) _ (some_getD (d := l23_0D) c6)
          rw [eq_of_beq c7] at h3
          exact Eq.trans (Eq.mp (by kernel_rfl) h3) hq
        cases hp
      · skip
        obtain ⟨c8, h⟩ := iY h
        obtain ⟨c10, h⟩ := iY h
        cases h
        refine ⟨(.tup [(.d (.sl (.pair (.sl (.pair .str .str)) (.int .i64)) (sortG (List.take (List.length (l23_0R m (m + 24) x0 x1 x2 ((((List.length x1) : Nat) : Int)) 0 (([] : Q0))).2.2) (List.drop 0 (l23_0R m (m + 24) x0 x1 x2 ((((List.length x1) : Nat) : Int)) 0 (([] : Q0))).2.2))))), (.d (.int .i64 (0)))]), [], runT_ok (LS := (fun k => if k = 14680325 then some (l23_0E x0 x1 x2 (((((List.length x1) : Nat) : Int))) ((l23_0R m (m + 24) x0 x1 x2 ((((List.length x1) : Nat) : Int)) 0 (([] : Q0))).2.1) ((l23_0R m (m + 24) x0 x1 x2 ((((List.length x1) : Nat) : Int)) 0 (([] : Q0))).2.2) 1) else none)) (fn := fn23) (vis := [(14680325, l23_0H x0 x1 x2 ((((List.length x1) : Nat) : Int)) 0 (([] : Q0)), l23_0B x0 x1 x2 ((((List.length x1) : Nat) : Int)) 0 (([] : Q0)))]) (by kernel_rfl) rfl (by kernel_rfl) (M.run_of_path _ [tT, fF, fF, tT, fF, fF, tT, tT] _ _ (by kernel_rfl) (all_t c0 (all_f c1 (all_f c1 (all_t c3 (all_f c1 (all_f c5 (all_t (show decide ((0 + (List.length (l23_0R m (m + 24) x0 x1 x2 ((((List.length x1) : Nat) : Int)) 0 (([] : Q0))).2.2)) ≤ (List.length (l23_0R m (m + 24) x0 x1 x2 ((((List.length x1) : Nat) : Int)) 0 (([] : Q0))).2.2)) = true from decide_eq_true (Nat.le_of_eq (Nat.zero_add _))) (all_t c10 all_nil))))))))) ?_, by simp, (wkR.tup (wkVs.cons (wkV.one (wk1.eq rfl)) (wkVs.cons (wkV.one (wk1.eq rfl)) wkVs.nil))), trivial⟩
        intro p hp p2 hq
        rcases List.mem_cons.1 hp with rfl | hp
        · skip
          have h3 := l23_0_ok m (m + 24) x0 x1 x2 ((((List.length x1) : Nat) : Int)) 0 (([] : Q0)) _ (some_getD (d := l23_0D) c6)
          rw [eq_of_beq c8] at h3
          exact Eq.trans (Eq.mp (by kernel_rfl) h3) hq
        cases hp

def mkG (kind : Int) (b : VL) (p : PT1) : Int × Int := reckG kind p.2 (atK b (pkeyG p))
def bothG (a b : VL) : VL := a.filter fun p => hasK b (pkeyG p)
def mathG (kind : Int) (a b : VL) : VL × Int := if twiceG a = true then ([], 5) else if twiceG b = true then ([], 5) else if fErr (fun p => (mkG kind b p).2) (bothG a b) ≠ 0 then ([], fErr (fun p => (mkG kind b p).2) (bothG a b)) else (sortG ((bothG a b).map fun p => (pkeyG p, (mkG kind b p).1)), 0)
def mathPre (a b : VL) : Bool := sortPre a && (sortPre b && (smallV a && smallV b))
theorem math_loop (m : Nat) (kind : Int) (a b : VL) (ha : sortPre a = true) (hb : sortPre b = true) (hs : ∀ p ∈ a, -1000000 ≤ p.2 ∧ p.2 ≤ 1000000) (ht : ∀ p ∈ b, -1000000 ≤ p.2 ∧ p.2 ≤ 1000000) : ∀ (n k : Nat) (out : VL), k ≤ a.length → a.length - k < n → out.length ≤ k →
    (∃ j out', l23_0 m n kind a b ((a.length : Nat) : Int) (k : Nat) out = some (0, ((j : Nat) : Int), out') ∧ (mkG kind b (a.getD j (([] : LB), 0))).2 = fErr (fun p => (mkG kind b p).2) (bothG (a.drop k) b) ∧ fErr (fun p => (mkG kind b p).2) (bothG (a.drop k) b) ≠ 0) ∨
    (fErr (fun p => (mkG kind b p).2) (bothG (a.drop k) b) = 0 ∧ ∃ j, l23_0 m n kind a b ((a.length : Nat) : Int) (k : Nat) out = some (1, j, out ++ (bothG (a.drop k) b).map fun p => (pkeyG p, (mkG kind b p).1)))
  | 0, k, _, _, h, _ => by omega
  | n + 1, k, out, h1, h2, h3 => by
    rw [l23_0]
    obtain ⟨a1, a2⟩ := of_decide_eq_true ha
    by_cases hk : k < a.length
    · have e1 : decide (((k : Nat) : Int) < (((List.length a) : Nat) : Int)) = true := decide_eq_true (by omega)
      have e2 : decide ((0 : Int) ≤ ((k : Nat) : Int)) = true := decide_eq_true (by omega)
      have e4 : decide ((((List.length out) + 1) * 32) ≤ 70368744177664) = true := decide_eq_true (by omega)
      have e7 : IntKind.wrap .i64 (((k : Nat) : Int) + (1)) = ((k + 1 : Nat) : Int) := by rw [wrap_id (by omega) (by omega)]; rfl
      have hq := (of_decide_eq_true (a2 _ (getD_mem a k (([] : LB), 0) hk))).1
      have hb' := hs _ (getD_mem a k (([] : LB), 0) hk)
      rw [drop_getD a k (([] : LB), 0) hk, show Int.toNat ((k : Nat) : Int) = k from rfl, e7, if_pos e1, if_pos e2, if_pos e1]
      generalize hQ : a.getD k (([] : LB), 0) = q at hq hb'
      have ih := fun out' h => math_loop m kind a b ha hb hs ht n (k + 1) out' (by omega) (by omega) h
      have hp : findPre b (pkeyG q) = true := sort_v hb
      have hbo : bothG (q :: a.drop (k + 1)) b = if hasK b (pkeyG q) = true then q :: bothG (a.drop (k + 1)) b else bothG (a.drop (k + 1)) b := by unfold bothG; rw [List.filter_cons]
      rw [if_pos (decide_eq_true hq), if_pos hp, has_neg, hbo]
      cases hh : hasK b (pkeyG q) with
      | false =>
        rw [if_pos (by rfl), if_neg (by simp)]
        exact ih out (by omega)
      | true =>
        have hge : findG b (pkeyG q) ≥ 0 := (find_has _ _).2 hh
        have hlt := find_lt hge
        have hat : (b.getD (findG b (pkeyG q)).toNat (([] : LB), 0)).2 = atK b (pkeyG q) := rfl
        have hbv := ht _ (getD_mem b (findG b (pkeyG q)).toNat (([] : LB), 0) (by omega))
        rw [hat] at hbv
        have r1 : reckPre q.2 (atK b (pkeyG q)) = true := decide_eq_true (by omega)
        have hr : reckG kind q.2 (atK b (pkeyG q)) = mkG kind b q := rfl
        rw [if_neg (by simp), if_pos rfl, if_pos (decide_eq_true hge), if_pos (decide_eq_true hlt), hat, if_pos r1, hr, fErr, List.map_cons, if_pos e4]
        by_cases hc : (mkG kind b q).2 = 0
        · have : ((mkG kind b q).2 != 0) = false := by rw [hc]; rfl
          have hne : ¬ ((mkG kind b q).2 ≠ 0) := fun z => z hc
          simp only [this, Bool.false_eq_true, ↓reduceIte, if_neg hne]
          rcases ih (out ++ [(pkeyG q, (mkG kind b q).1)]) (by simp; omega) with h | ⟨h, j, hj⟩
          · exact .inl h
          · exact .inr ⟨h, j, by rw [hj]; simp⟩
        · have : ((mkG kind b q).2 != 0) = true := by rw [bne_iff_ne]; exact hc
          rw [if_pos this, if_pos hc]
          exact .inl ⟨k, out, rfl, by rw [hQ], hc⟩
    · have e1 : decide (((k : Nat) : Int) < (((List.length a) : Nat) : Int)) = false := decide_eq_false (by omega)
      rw [e1, if_neg (by simp), List.drop_eq_nil_of_le (by omega)]
      exact .inr ⟨rfl, ((k : Nat) : Int), by simp [bothG]⟩
theorem math23 (kind : Int) (a b : VL) (h : mathPre a b = true) : ∃ m, p23 m kind a b = some (mathG kind a b) := by
  unfold mathPre at h
  rw [Bool.and_eq_true, Bool.and_eq_true, Bool.and_eq_true] at h
  obtain ⟨ha, hb, hs, ht⟩ := h
  have hs := of_decide_eq_true hs
  have ht := of_decide_eq_true ht
  refine ⟨a.length, ?_⟩
  unfold p23 mathG
  rw [if_pos (sort_v ha), if_pos (sort_v hb)]
  by_cases t1 : twiceG a = true
  · rw [if_pos t1, if_pos t1]
  · rw [if_neg t1, if_neg t1]
    by_cases t2 : twiceG b = true
    · rw [if_pos t2, if_pos t2]
    · rw [if_neg t2, if_neg t2]
      unfold l23_0R
      rcases math_loop a.length kind a b ha hb hs ht (a.length + 24) 0 [] (by omega) (by omega) (by simp) with ⟨j, out, hr, h1, h2⟩ | ⟨h1, j, hr⟩
      · rw [Int.natCast_zero] at hr
        rw [List.drop_zero] at h1 h2
        rw [hr, if_pos h2, ← h1]
        rfl
      · rw [Int.natCast_zero, List.drop_zero, List.nil_append] at hr
        rw [List.drop_zero] at h1
        have hne : ¬ (fErr (fun p => (mkG kind b p).2) (bothG a b) ≠ 0) := fun z => z h1
        rw [hr, if_neg hne]
        have hl := List.length_filter_le (fun p => hasK b (pkeyG p)) a
        have hp := map_pre (b := bothG a b) (fun p => (mkG kind b p).1) ha (by have := (of_decide_eq_true ha).1; unfold bothG; omega) (fun p h => (List.mem_filter.1 h).1)
        have z0 : ((1 : Nat) == 0) = false := rfl
        simp only [Option.isSome_some, Option.getD_some, ↓reduceIte, List.drop_zero, List.take_length, hp, z0, beq_self_eq_true, Bool.false_eq_true]
def s23 : List AV → Boxes → M (AV × Boxes) := normS [.val (.int .i64), .val (.sl (.pair (.sl (.pair .str .str)) (.int .i64))), .val (.sl (.pair (.sl (.pair .str .str)) (.int .i64)))] [] fun xs B => match xs, B with
  | [(.d (.int .i64 c1)), (.d (.sl (.pair (.sl (.pair .str .str)) (.int .i64)) c2)), (.d (.sl (.pair (.sl (.pair .str .str)) (.int .i64)) c3))], [] => .chk (mathPre c2 c3) (.ret ((.tup [(.d (.sl (.pair (.sl (.pair .str .str)) (.int .i64)) (mathG c1 c2 c3).1)), (.d (.int .i64 (mathG c1 c2 c3).2))]), []))
  | _, _ => .fail
theorem s23_at : CallAt Tryd.prog 23 s23 := by
  refine CallAt.norm (CallAt.weakE (g := fun n => evCall F S35 n 23) (fun n => evCall_atH mixed kinds hds S35 S35_ok n 23) fun xs B r' B' hr => ?_) _ _
  split at hr
  · rename_i c1 c2 c3
    obtain ⟨hp, hr⟩ := (M.run_chk _ _ _).1 hr
    simp only [M.run, Option.some.injEq, Prod.mk.injEq] at hr
    obtain ⟨rfl, rfl⟩ := hr
    obtain ⟨m, hm⟩ := math23 c1 c2 c3 hp
    obtain ⟨r, B1, h1, h2, h3, h4⟩ := p23_ok m c1 c2 c3 _ hm
    exact ⟨m + 25, r, B1, h1, by simp, h2, h3, h4⟩
  · simp [M.run] at hr
noncomputable def S36 : FuncId → Option (List AV → Boxes → M (AV × Boxes)) := fun f => if f = 23 then some s23 else S35 f
theorem S36_ok : ∀ f s, S36 f = some s → CallAt Tryd.prog f s := by
  intro f s h
  unfold S36 at h
  split at h
  · rename_i e; subst e; cases h; exact s23_at
  · exact S35_ok f s h

end Go.Proofs.YtahdcmicifokgaaDoor.Dec
namespace Go.Proofs.YtahdcmicifokgaaDoor.Dec
open Go.Ev
set_option linter.unusedVariables false
set_option linter.unusedSimpArgs false
set_option maxRecDepth 100000
set_option maxHeartbeats 20000000
noncomputable def fn5 : AFn := (F 5).getD ⟨0, [], .bad, false, false, noHd⟩
noncomputable def body5 : AC := fn5.body
def l5_0 (m : Nat) : Nat → Q0 → Int → Int → Q0 → Int → Int → Option (Nat × Int)
  | 0, _, _, _, _, _, _ => none
  | n + 1, s7, s8, s9, s20, s121, s122 => if decide (s122 < s121) = true then
      if decide (0 ≤ s122) = true then
      if decide (s122 < (((List.length s20) : Nat) : Int)) = true then
      if decide (List.length (List.getD s20 (Int.toNat s122) (([] : Q2), 0)).1 ≤ 1000000) = true then
      if ((getG (List.getD s20 (Int.toNat s122) (([] : Q2), 0)).1 ([110, 97, 109, 101] : Q4)) == ([] : Q4)) = true then
      if decide (s122 > 0) = true then
        if decide (0 ≤ (IntKind.wrap .i64 (s122 - (1)))) = true then
        if decide ((IntKind.wrap .i64 (s122 - (1))) < (((List.length s20) : Nat) : Int)) = true then
        if lrightPre (List.getD s20 (Int.toNat (IntKind.wrap .i64 (s122 - (1)))) (([] : Q2), 0)).1 = true then
        if lrightPre (List.getD s20 (Int.toNat s122) (([] : Q2), 0)).1 = true then
        if decide ((Lib.compareBytes (lprintG (List.getD s20 (Int.toNat (IntKind.wrap .i64 (s122 - (1)))) (([] : Q2), 0)).1) (lprintG (List.getD s20 (Int.toNat s122) (([] : Q2), 0)).1)) ≥ 0) = true then
          none
        else
          l5_0 m n s7 s8 s9 s20 s121 ((IntKind.wrap .i64 (s122 + (1))))
        else none
        else none
        else none
        else none
      else
        l5_0 m n s7 s8 s9 s20 s121 ((IntKind.wrap .i64 (s122 + (1))))
      else none
      else none
      else none
      else none
    else
      some (0, s122)
def l5_0D : Nat × Int := (0, 0)
@[reducible] def l5_0R (m n : Nat) (s7 : Q0) (s8 : Int) (s9 : Int) (s20 : Q0) (s121 : Int) (s122 : Int) : Nat × Int := Option.getD (l5_0 m n s7 s8 s9 s20 s121 s122) l5_0D
def l5_0H (s7 : Q0) (s8 : Int) (s9 : Int) (s20 : Q0) (s121 : Int) (s122 : Int) : Env := (.top :: .top :: .top :: .top :: .top :: .top :: .top :: (.d (.sl (.pair (.sl (.pair .str .str)) (.int .i64)) s7)) :: (.d (.int .i64 s8)) :: (.d (.int .i64 s9)) :: tp10 ((.d (.sl (.pair (.sl (.pair .str .str)) (.int .i64)) s20)) :: tp100 ((.d (.int .i64 s121)) :: (.d (.int .i64 s122)) :: tp109 [])))
def l5_0B (s7 : Q0) (s8 : Int) (s9 : Int) (s20 : Q0) (s121 : Int) (s122 : Int) : Boxes := []
def l5_0E (s7 : Q0) (s8 : Int) (s9 : Int) (s20 : Q0) (s121 : Int) (s122 : Int) : Nat → AEx × Env × Boxes
  | _ => (.exit 0, (.top :: .top :: .top :: .top :: .top :: .top :: .top :: (.d (.sl (.pair (.sl (.pair .str .str)) (.int .i64)) s7)) :: (.d (.int .i64 s8)) :: (.d (.int .i64 s9)) :: tp10 ((.d (.sl (.pair (.sl (.pair .str .str)) (.int .i64)) s20)) :: tp100 ((.d (.int .i64 s121)) :: (.d (.int .i64 s122)) :: (.d (.bool (decide (s122 < s121)))) :: tp108 []))), [])
noncomputable def lbl5_0 : AC := loopBody 7975367974709495237422842361683116928 body5
@[reducible] noncomputable def cb23 (m : Nat) := (evC byref (evCall F S36 (m + 24)) (m + 24) 0 (hds 5) lbl5_0)


theorem l5_0_step (m n : Nat) (ih : ∀ (s7 : Q0) (s8 : Int) (s9 : Int) (s20 : Q0) (s121 : Int) (s122 : Int) (q : Nat × Int), l5_0 m n s7 s8 s9 s20 s121 s122 = some q → (turns (hds 5 7975367974709495237422842361683116928) 0 7975367974709495237422842361683116928 (cb23 m) n (l5_0H s7 s8 s9 s20 s121 s122) (l5_0B s7 s8 s9 s20 s121 s122)).run = some (l5_0E (s7) (s8) (s9) (s20) (s121) (q.2) q.1)) (s7 : Q0) (s8 : Int) (s9 : Int) (s20 : Q0) (s121 : Int) (s122 : Int) (q : Nat × Int) (h : l5_0 m (n + 1) s7 s8 s9 s20 s121 s122 = some q) : (turns (hds 5 7975367974709495237422842361683116928) 0 7975367974709495237422842361683116928 (cb23 m) (n + 1) (l5_0H s7 s8 s9 s20 s121 s122) (l5_0B s7 s8 s9 s20 s121 s122)).run = some (l5_0E (s7) (s8) (s9) (s20) (s121) (q.2) q.1) := by
  rw [l5_0] at h
  refine ite_cases h (fun c0 h => ?_) (fun c0 h => ?_)
  · skip
    obtain ⟨c1, h⟩ := iY h
    obtain ⟨c2, h⟩ := iY h
    obtain ⟨c3, h⟩ := iY h
    obtain ⟨c4, h⟩ := iY h
    refine ite_cases h (fun c7 h => ?_) (fun c7 h => ?_)
    · skip
      obtain ⟨c11, h⟩ := iY h
      obtain ⟨c12, h⟩ := iY h
      obtain ⟨c23, h⟩ := iY h
      obtain ⟨c24, h⟩ := iY h
      refine ite_cases h (fun _ h => by cases h) (fun c30 h => ?_)
      have ih := ih _ _ _ _ _ _ q h
      refine turns_step ?_ ih
      exact M.run_of_path _ [tT, tT, tT, tT, fF, fF, fF, tT, tT, tT, tT, tT, tT, tT, tT, tT, tT, tT, tT, tT, tT, tT, tT, tT, tT, tT, tT, fF, tT, fF, fF] _ _ (by kernel_rfl) (all_t c0 (all_t c1 (all_t c2 (all_t c3 (all_nt c4 (all_nt c4 (all_nt c4 (all_t c7 (all_t c7 (all_t c7 (all_t c7 (all_t c11 (all_t c12 (all_t c7 (all_t c7 (all_t c7 (all_t c7 (all_t c7 (all_t c1 (all_t c2 (all_t c7 (all_t c7 (all_t c7 (all_t c23 (all_t c24 (all_t rfl (all_t c7 (all_nt c4 (all_t c7 (all_nt c4 (all_f c30 all_nil)))))))))))))))))))))))))))))))
    · skip
      have ih := ih _ _ _ _ _ _ q h
      refine turns_step ?_ ih
      exact M.run_of_path _ [tT, tT, tT, tT, fF, fF, fF, fF, fF, fF, fF, fF, fF, fF, fF, fF, fF, fF, fF, fF, fF, fF, fF, fF] _ _ (by kernel_rfl) (all_t c0 (all_t c1 (all_t c2 (all_t c3 (all_nt c4 (all_nt c4 (all_nt c4 (all_f c7 (all_f c7 (all_f c7 (all_f c7 (all_f c7 (all_f c7 (all_f c7 (all_f c7 (all_f c7 (all_f c7 (all_f c7 (all_f c7 (all_f c7 (all_nt c4 (all_f c7 (all_nt c4 (all_f Bool.false_ne_true all_nil))))))))))))))))))))))))
  · skip
    cases h
    refine turns_last (by simp) ?_
    exact M.run_of_path _ [fF] _ _ (by kernel_rfl) (all_f c0 all_nil)
theorem l5_0_ok (m : Nat) : ∀ (n : Nat) (s7 : Q0) (s8 : Int) (s9 : Int) (s20 : Q0) (s121 : Int) (s122 : Int) (q : Nat × Int), l5_0 m n s7 s8 s9 s20 s121 s122 = some q → (turns (hds 5 7975367974709495237422842361683116928) 0 7975367974709495237422842361683116928 (cb23 m) n (l5_0H s7 s8 s9 s20 s121 s122) (l5_0B s7 s8 s9 s20 s121 s122)).run = some (l5_0E (s7) (s8) (s9) (s20) (s121) (q.2) q.1)
  | 0, s7, s8, s9, s20, s121, s122, q, h => by cases h
  | n + 1, s7, s8, s9, s20, s121, s122, q, h => l5_0_step m n (l5_0_ok m n) s7 s8 s9 s20 s121 s122 q h

def l5_1 (m : Nat) : Nat → Q0 → Int → Q0 → Q0 → Int → Int → Option (Nat × Int)
  | 0, _, _, _, _, _, _ => none
  | n + 1, s7, s8, s23, s25, s180, s181 => if decide (s181 < s180) = true then
      if (s8 != (4)) = true then
        if decide (0 ≤ s181) = true then
        if decide (s181 < (((List.length s23) : Nat) : Int)) = true then
        if decide (s181 < (((List.length s25) : Nat) : Int)) = true then
        if ((List.getD s23 (Int.toNat s181) (([] : Q2), 0)).2 != (List.getD s25 (Int.toNat s181) (([] : Q2), 0)).2) = true then
          none
        else
          if (s8 == (4)) = true then
            if ((List.getD s23 (Int.toNat s181) (([] : Q2), 0)).2 != (IntKind.wrap .i64 (0 - (List.getD s25 (Int.toNat s181) (([] : Q2), 0)).2))) = true then
              none
            else
              l5_1 m n s7 s8 s23 s25 s180 ((IntKind.wrap .i64 (s181 + (1))))
          else
            l5_1 m n s7 s8 s23 s25 s180 ((IntKind.wrap .i64 (s181 + (1))))
        else none
        else none
        else none
      else
        if (s8 == (4)) = true then
          if decide (0 ≤ s181) = true then
          if decide (s181 < (((List.length s23) : Nat) : Int)) = true then
          if decide (s181 < (((List.length s25) : Nat) : Int)) = true then
          if ((List.getD s23 (Int.toNat s181) (([] : Q2), 0)).2 != (IntKind.wrap .i64 (0 - (List.getD s25 (Int.toNat s181) (([] : Q2), 0)).2))) = true then
            none
          else
            l5_1 m n s7 s8 s23 s25 s180 ((IntKind.wrap .i64 (s181 + (1))))
          else none
          else none
          else none
        else
          l5_1 m n s7 s8 s23 s25 s180 ((IntKind.wrap .i64 (s181 + (1))))
    else
      some (0, s181)
def l5_1D : Nat × Int := (0, 0)
@[reducible] def l5_1R (m n : Nat) (s7 : Q0) (s8 : Int) (s23 : Q0) (s25 : Q0) (s180 : Int) (s181 : Int) : Nat × Int := Option.getD (l5_1 m n s7 s8 s23 s25 s180 s181) l5_1D
def l5_1H (s7 : Q0) (s8 : Int) (s23 : Q0) (s25 : Q0) (s180 : Int) (s181 : Int) : Env := (.top :: .top :: .top :: .top :: .top :: .top :: .top :: (.d (.sl (.pair (.sl (.pair .str .str)) (.int .i64)) s7)) :: (.d (.int .i64 s8)) :: tp14 ((.d (.sl (.pair (.sl (.pair .str .str)) (.int .i64)) s23)) :: .top :: (.d (.sl (.pair (.sl (.pair .str .str)) (.int .i64)) s25)) :: tp154 ((.d (.int .i64 s180)) :: (.d (.int .i64 s181)) :: tp50 [])))
def l5_1B (s7 : Q0) (s8 : Int) (s23 : Q0) (s25 : Q0) (s180 : Int) (s181 : Int) : Boxes := []
def l5_1E (s7 : Q0) (s8 : Int) (s23 : Q0) (s25 : Q0) (s180 : Int) (s181 : Int) : Nat → AEx × Env × Boxes
  | _ => (.exit 2, (.top :: .top :: .top :: .top :: .top :: .top :: .top :: (.d (.sl (.pair (.sl (.pair .str .str)) (.int .i64)) s7)) :: (.d (.int .i64 s8)) :: tp14 ((.d (.sl (.pair (.sl (.pair .str .str)) (.int .i64)) s23)) :: .top :: (.d (.sl (.pair (.sl (.pair .str .str)) (.int .i64)) s25)) :: tp154 ((.d (.int .i64 s180)) :: (.d (.int .i64 s181)) :: (.d (.bool (decide (s181 < s180)))) :: tp49 []))), [])
noncomputable def lbl5_1 : AC := loopBody 4597486622597666575075041081450927550856217366592749952 body5
@[reducible] noncomputable def cb24 (m : Nat) := (evC byref (evCall F S36 (m + 24)) (m + 24) 0 (hds 5) lbl5_1)


theorem l5_1_step (m n : Nat) (ih : ∀ (s7 : Q0) (s8 : Int) (s23 : Q0) (s25 : Q0) (s180 : Int) (s181 : Int) (q : Nat × Int), l5_1 m n s7 s8 s23 s25 s180 s181 = some q → (turns (hds 5 4597486622597666575075041081450927550856217366592749952) 0 4597486622597666575075041081450927550856217366592749952 (cb24 m) n (l5_1H s7 s8 s23 s25 s180 s181) (l5_1B s7 s8 s23 s25 s180 s181)).run = some (l5_1E (s7) (s8) (s23) (s25) (s180) (q.2) q.1)) (s7 : Q0) (s8 : Int) (s23 : Q0) (s25 : Q0) (s180 : Int) (s181 : Int) (q : Nat × Int) (h : l5_1 m (n + 1) s7 s8 s23 s25 s180 s181 = some q) : (turns (hds 5 4597486622597666575075041081450927550856217366592749952) 0 4597486622597666575075041081450927550856217366592749952 (cb24 m) (n + 1) (l5_1H s7 s8 s23 s25 s180 s181) (l5_1B s7 s8 s23 s25 s180 s181)).run = some (l5_1E (s7) (s8) (s23) (s25) (s180) (q.2) q.1) := by
  rw [l5_1] at h
  refine ite_cases h (fun c0 h => ?_) (fun c0 h => ?_)
  · skip
    refine ite_cases h (fun c1 h => ?_) (fun c1 h => ?_)
    · skip
      obtain ⟨c4, h⟩ := iY h
      obtain ⟨c5, h⟩ := iY h
      obtain ⟨c12, h⟩ := iY h
      refine ite_cases h (fun _ h => by cases h) (fun c17 h => ?_)
      refine ite_cases h (fun c20 h => ?_) (fun c20 h => ?_)
      · skip
        refine ite_cases h (fun _ h => by cases h) (fun c39 h => ?_)
        have ih := ih _ _ _ _ _ _ q h
        refine turns_step ?_ ih
        exact M.run_of_path _ [tT, tT, tT, tT, tT, tT, tT, tT, tT, tT, tT, tT, tT, tT, tT, tT, tT, fF, fF, fF, tT, tT, tT, tT, tT, tT, tT, tT, tT, tT, tT, tT, tT, tT, tT, tT, fF, tT, fF, fF] _ _ (by kernel_rfl) (all_t c0 (all_t c1 (all_t c1 (all_t c1 (all_t c4 (all_t c5 (all_t c1 (all_t c1 (all_t c1 (all_t c1 (all_t c1 (all_t c4 (all_t c12 (all_t c1 (all_t c1 (all_t c1 (all_t c1 (all_f c17 (all_f c17 (all_f c17 (all_t c20 (all_t c20 (all_t c20 (all_t c4 (all_t c5 (all_t c20 (all_t c20 (all_t c20 (all_t c20 (all_t c20 (all_t c4 (all_t c12 (all_t c20 (all_t c20 (all_t c20 (all_t c20 (all_f c17 (all_t c20 (all_f c17 (all_f c39 all_nil))))))))))))))))))))))))))))))))))))))))
      · skip
        have ih := ih _ _ _ _ _ _ q h
        refine turns_step ?_ ih
        exact M.run_of_path _ [tT, tT, tT, tT, tT, tT, tT, tT, tT, tT, tT, tT, tT, tT, tT, tT, tT, fF, fF, fF, fF, fF, fF, fF, fF, fF, fF, fF, fF, fF, fF, fF, fF, fF, fF, fF] _ _ (by kernel_rfl) (all_t c0 (all_t c1 (all_t c1 (all_t c1 (all_t c4 (all_t c5 (all_t c1 (all_t c1 (all_t c1 (all_t c1 (all_t c1 (all_t c4 (all_t c12 (all_t c1 (all_t c1 (all_t c1 (all_t c1 (all_f c17 (all_f c17 (all_f c17 (all_f c20 (all_f c20 (all_f c20 (all_f c20 (all_f c20 (all_f c20 (all_f c20 (all_f c20 (all_f c20 (all_f c20 (all_f c20 (all_f c20 (all_f c17 (all_f c20 (all_f c17 (all_f Bool.false_ne_true all_nil))))))))))))))))))))))))))))))))))))
    · skip
      refine ite_cases h (fun c16 h => ?_) (fun c16 h => ?_)
      · skip
        obtain ⟨c19, h⟩ := iY h
        obtain ⟨c20, h⟩ := iY h
        obtain ⟨c27, h⟩ := iY h
        refine ite_cases h (fun _ h => by cases h) (fun c35 h => ?_)
        have ih := ih _ _ _ _ _ _ q h
        refine turns_step ?_ ih
        exact M.run_of_path _ [tT, fF, fF, fF, fF, fF, fF, fF, fF, fF, fF, fF, fF, fF, fF, fF, tT, tT, tT, tT, tT, tT, tT, tT, tT, tT, tT, tT, tT, tT, tT, tT, fF, tT, fF, fF] _ _ (by kernel_rfl) (all_t c0 (all_f c1 (all_f c1 (all_f c1 (all_f c1 (all_f c1 (all_f c1 (all_f c1 (all_f c1 (all_f c1 (all_f c1 (all_f c1 (all_f c1 (all_f Bool.false_ne_true (all_f Bool.false_ne_true (all_f Bool.false_ne_true (all_t c16 (all_t c16 (all_t c16 (all_t c19 (all_t c20 (all_t c16 (all_t c16 (all_t c16 (all_t c16 (all_t c16 (all_t c19 (all_t c27 (all_t c16 (all_t c16 (all_t c16 (all_t c16 (all_f Bool.false_ne_true (all_t c16 (all_f Bool.false_ne_true (all_f c35 all_nil))))))))))))))))))))))))))))))))))))
      · skip
        have ih := ih _ _ _ _ _ _ q h
        refine turns_step ?_ ih
        exact M.run_of_path _ [tT, fF, fF, fF, fF, fF, fF, fF, fF, fF, fF, fF, fF, fF, fF, fF, fF, fF, fF, fF, fF, fF, fF, fF, fF, fF, fF, fF, fF, fF, fF, fF] _ _ (by kernel_rfl) (all_t c0 (all_f c1 (all_f c1 (all_f c1 (all_f c1 (all_f c1 (all_f c1 (all_f c1 (all_f c1 (all_f c1 (all_f c1 (all_f c1 (all_f c1 (all_f Bool.false_ne_true (all_f Bool.false_ne_true (all_f Bool.false_ne_true (all_f c16 (all_f c16 (all_f c16 (all_f c16 (all_f c16 (all_f c16 (all_f c16 (all_f c16 (all_f c16 (all_f c16 (all_f c16 (all_f c16 (all_f Bool.false_ne_true (all_f c16 (all_f Bool.false_ne_true (all_f Bool.false_ne_true all_nil))))))))))))))))))))))))))))))))
  · skip
    cases h
    refine turns_last (by simp) ?_
    exact M.run_of_path _ [fF] _ _ (by kernel_rfl) (all_f c0 all_nil)
theorem l5_1_ok (m : Nat) : ∀ (n : Nat) (s7 : Q0) (s8 : Int) (s23 : Q0) (s25 : Q0) (s180 : Int) (s181 : Int) (q : Nat × Int), l5_1 m n s7 s8 s23 s25 s180 s181 = some q → (turns (hds 5 4597486622597666575075041081450927550856217366592749952) 0 4597486622597666575075041081450927550856217366592749952 (cb24 m) n (l5_1H s7 s8 s23 s25 s180 s181) (l5_1B s7 s8 s23 s25 s180 s181)).run = some (l5_1E (s7) (s8) (s23) (s25) (s180) (q.2) q.1)
  | 0, s7, s8, s23, s25, s180, s181, q, h => by cases h
  | n + 1, s7, s8, s23, s25, s180, s181, q, h => l5_1_step m n (l5_1_ok m n) s7 s8 s23 s25 s180 s181 q h

def vmath (m : Nat) (x0 : Q1) (x1 : Int) (x2 : Int) : Option Unit :=
  if vPre (vecG x0) = true then
  if (twiceG (vecG x0)) = true then
    if scalePre (vecG x0) (withinI x1 (-50) (50)) = true then
    if mathPre (vecG x0) (vecG x0) = true then
    if ((scaleG (withinI x2 (3) (5)) (vecG x0) (withinI x1 (-50) (50)) false).2 == (5)) = true then
    if ((mathG (withinI x2 (3) (5)) (vecG x0) (vecG x0)).2 == (5)) = true then
    some ()
    else none
    else none
    else none
    else none
  else
    if mathPre (vecG x0) (vecG x0) = true then
    if mathPre (mathG (3) (vecG x0) (vecG x0)).1 (vecG x0) = true then
    if scalePre (vecG x0) (2) = true then
    if scalePre (vecG x0) (0) = true then
    if ((mathG (3) (vecG x0) (vecG x0)).2 != (0)) = true then
      none
    else
      if ((mathG (4) (mathG (3) (vecG x0) (vecG x0)).1 (vecG x0)).2 != (0)) = true then
        none
      else
        if ((scaleG (5) (vecG x0) (2) false).2 != (0)) = true then
          none
        else
          if ((scaleG (3) (vecG x0) (0) false).2 != (0)) = true then
            none
          else
            if ptsPre (mathG (3) (vecG x0) (vecG x0)).1 = true then
            if ((show List (List (Q4 × Q4) × Int) from (mathG (3) (vecG x0) (vecG x0)).1) == (scaleG (5) (vecG x0) (2) false).1) = true then
            if ptsPre (mathG (4) (mathG (3) (vecG x0) (vecG x0)).1 (vecG x0)).1 = true then
            if ((show List (List (Q4 × Q4) × Int) from (mathG (4) (mathG (3) (vecG x0) (vecG x0)).1 (vecG x0)).1) == (scaleG (3) (vecG x0) (0) false).1) = true then
            if ((((List.length (scaleG (3) (vecG x0) (0) false).1) : Nat) : Int) != (((List.length (vecG x0)) : Nat) : Int)) = true then
              none
            else
              if vPre (scaleG (3) (vecG x0) (0) false).1 = true then
              if (twiceG (scaleG (3) (vecG x0) (0) false).1) = true then
                none
              else
                if (Option.isSome (l5_0 m (m + 24) ((vecG x0)) ((withinI x2 (3) (5))) ((withinI x1 (-50) (50))) ((scaleG (3) (vecG x0) (0) false).1) ((((List.length (scaleG (3) (vecG x0) (0) false).1) : Nat) : Int)) 0)) = true then
                if scalePre ((vecG x0)) ((withinI x1 (-50) (50))) = true then
                if ((scaleG ((withinI x2 (3) (5))) ((vecG x0)) ((withinI x1 (-50) (50))) true).2 != (0)) = true then
                  none
                else
                  if ((scaleG ((withinI x2 (3) (5))) ((vecG x0)) ((withinI x1 (-50) (50))) false).2 != (0)) = true then
                    none
                  else
                    if ((((List.length (scaleG ((withinI x2 (3) (5))) ((vecG x0)) ((withinI x1 (-50) (50))) true).1) : Nat) : Int) != (((List.length (scaleG ((withinI x2 (3) (5))) ((vecG x0)) ((withinI x1 (-50) (50))) false).1) : Nat) : Int)) = true then
                      none
                    else
                      if (Option.isSome (l5_1 m (m + 24) (((vecG x0))) (((withinI x2 (3) (5)))) ((scaleG ((withinI x2 (3) (5))) ((vecG x0)) ((withinI x1 (-50) (50))) true).1) ((scaleG ((withinI x2 (3) (5))) ((vecG x0)) ((withinI x1 (-50) (50))) false).1) ((((List.length (scaleG ((withinI x2 (3) (5))) ((vecG x0)) ((withinI x1 (-50) (50))) true).1) : Nat) : Int)) 0)) = true then
                      if scalePre (((vecG x0))) (0) = true then
                      if (((scaleG (6) (((vecG x0))) (0) false).2 == (4)) == decide ((((List.length (((vecG x0)))) : Nat) : Int) > 0)) = true then
                      some ()
                      else none
                      else none
                      else none
                else none
                else none
              else none
            else none
            else none
            else none
            else none
    else none
    else none
    else none
    else none
  else none

theorem vmath_ok (m : Nat) (x0 : Q1) (x1 : Int) (x2 : Int) (q : Unit) (h : vmath m x0 x1 x2 = some q) : (evCall F S36 (m + 25) 5 [(.agg [(.d (.sl (.pair (.sl (.int .i64)) (.sl (.int .i64))) x0.1)), (.d (.sl (.int .i64) x0.2))]), (.d (.int .i64 x1)), (.d (.int .i64 x2))] []).run = some (.d (.bool true), []) := by
  unfold vmath at h
  obtain ⟨c3, h⟩ := iY h
  refine ite_cases h (fun c4 h => ?_) (fun c4 h => ?_)
  · skip
    obtain ⟨c5, h⟩ := iY h
    obtain ⟨c6, h⟩ := iY h
    obtain ⟨c7, h⟩ := iY h
    obtain ⟨c10, h⟩ := iY h
    cases h
    refine runT_ok (LS := (fun k => none)) (fn := fn5) (r := .d (.bool true)) (B' := []) (vis := []) (by kernel_rfl) rfl (by kernel_rfl) (M.run_of_path _ [tT, tT, tT, tT, tT, tT, tT, tT, tT, tT, tT, tT] _ _ (by kernel_rfl) (all_t rfl (all_t rfl (all_t rfl (all_t c3 (all_t c4 (all_t c5 (all_t c6 (all_t c7 (all_t c7 (all_t c7 (all_t c10 (all_t c10 all_nil))))))))))))) ?_
    intro p hp; cases hp
  · skip
    obtain ⟨c5, h⟩ := iY h
    obtain ⟨c6, h⟩ := iY h
    obtain ⟨c7, h⟩ := iY h
    obtain ⟨c8, h⟩ := iY h
    refine ite_cases h (fun _ h => by cases h) (fun c9 h => ?_)
    refine ite_cases h (fun _ h => by cases h) (fun c12 h => ?_)
    refine ite_cases h (fun _ h => by cases h) (fun c15 h => ?_)
    refine ite_cases h (fun _ h => by cases h) (fun c18 h => ?_)
    obtain ⟨c21, h⟩ := iY h
    obtain ⟨c24, h⟩ := iY h
    obtain ⟨c27, h⟩ := iY h
    obtain ⟨c30, h⟩ := iY h
    refine ite_cases h (fun _ h => by cases h) (fun c36 h => ?_)
    obtain ⟨c38, h⟩ := iY h
    refine ite_cases h (fun _ h => by cases h) (fun c40 h => ?_)
    obtain ⟨c41, h⟩ := iY h
    obtain ⟨c42, h⟩ := iY h
    refine ite_cases h (fun _ h => by cases h) (fun c44 h => ?_)
    refine ite_cases h (fun _ h => by cases h) (fun c47 h => ?_)
    refine ite_cases h (fun _ h => by cases h) (fun c53 h => ?_)
    obtain ⟨c54, h⟩ := iY h
    obtain ⟨c55, h⟩ := iY h
    obtain ⟨c56, h⟩ := iY h
    cases h
    refine runT_ok (LS := (fun k => if k = 7975367974709495237422842361683116928 then some (l5_0E (((vecG x0))) (((withinI x2 (3) (5)))) (((withinI x1 (-50) (50)))) (((scaleG (3) (vecG x0) (0) false).1)) (((((List.length (scaleG (3) (vecG x0) (0) false).1) : Nat) : Int))) ((l5_0R m (m + 24) ((vecG x0)) ((withinI x2 (3) (5))) ((withinI x1 (-50) (50))) ((scaleG (3) (vecG x0) (0) false).1) ((((List.length (scaleG (3) (vecG x0) (0) false).1) : Nat) : Int)) 0).2) 0) else if k = 4597486622597666575075041081450927550856217366592749952 then some (l5_1E ((((vecG x0)))) ((((withinI x2 (3) (5))))) (((scaleG ((withinI x2 (3) (5))) ((vecG x0)) ((withinI x1 (-50) (50))) true).1)) (((scaleG ((withinI x2 (3) (5))) ((vecG x0)) ((withinI x1 (-50) (50))) false).1)) (((((List.length (scaleG ((withinI x2 (3) (5))) ((vecG x0)) ((withinI x1 (-50) (50))) true).1) : Nat) : Int))) ((l5_1R m (m + 24) (((vecG x0))) (((withinI x2 (3) (5)))) ((scaleG ((withinI x2 (3) (5))) ((vecG x0)) ((withinI x1 (-50) (50))) true).1) ((scaleG ((withinI x2 (3) (5))) ((vecG x0)) ((withinI x1 (-50) (50))) false).1) ((((List.length (scaleG ((withinI x2 (3) (5))) ((vecG x0)) ((withinI x1 (-50) (50))) true).1) : Nat) : Int)) 0).2) 0) else none)) (fn := fn5) (r := .d (.bool true)) (B' := []) (vis := [(7975367974709495237422842361683116928, l5_0H ((vecG x0)) ((withinI x2 (3) (5))) ((withinI x1 (-50) (50))) ((scaleG (3) (vecG x0) (0) false).1) ((((List.length (scaleG (3) (vecG x0) (0) false).1) : Nat) : Int)) 0, l5_0B ((vecG x0)) ((withinI x2 (3) (5))) ((withinI x1 (-50) (50))) ((scaleG (3) (vecG x0) (0) false).1) ((((List.length (scaleG (3) (vecG x0) (0) false).1) : Nat) : Int)) 0), (4597486622597666575075041081450927550856217366592749952, l5_1H (((vecG x0))) (((withinI x2 (3) (5)))) ((scaleG ((withinI x2 (3) (5))) ((vecG x0)) ((withinI x1 (-50) (50))) true).1) ((scaleG ((withinI x2 (3) (5))) ((vecG x0)) ((withinI x1 (-50) (50))) false).1) ((((List.length (scaleG ((withinI x2 (3) (5))) ((vecG x0)) ((withinI x1 (-50) (50))) true).1) : Nat) : Int)) 0, l5_1B (((vecG x0))) (((withinI x2 (3) (5)))) ((scaleG ((withinI x2 (3) (5))) ((vecG x0)) ((withinI x1 (-50) (50))) true).1) ((scaleG ((withinI x2 (3) (5))) ((vecG x0)) ((withinI x1 (-50) (50))) false).1) ((((List.length (scaleG ((withinI x2 (3) (5))) ((vecG x0)) ((withinI x1 (-50) (50))) true).1) : Nat) : Int)) 0)]) (by kernel_rfl) rfl (by kernel_rfl) (M.run_of_path _ [tT, tT, tT, tT, fF, tT, tT, tT, tT, fF, fF, fF, fF, fF, fF, fF, fF, fF, fF, fF, fF, tT, fF, fF, fF, fF, fF, tT, fF, fF, fF, fF, fF, fF, fF, fF, fF, fF, tT, fF, fF, tT, tT, fF, fF, fF, fF, fF, fF, fF, fF, fF, fF, tT, tT, tT] _ _ (by kernel_rfl) (all_t rfl (all_t rfl (all_t rfl (all_t c3 (all_f c4 (all_t c5 (all_t c6 (all_t c7 (all_t c8 (all_f c9 (all_f c9 (all_f c9 (all_f c12 (all_f c12 (all_f c12 (all_f c15 (all_f c15 (all_f c15 (all_f c18 (all_f c18 (all_f c18 (all_t c21 (all_f c18 (all_f c18 (all_nt c24 (all_nt c24 (all_nt c24 (all_t c27 (all_nt c24 (all_nt c24 (all_nt c30 (all_nt c30 (all_nt c30 (all_nt c30 (all_nt c30 (all_nt c30 (all_f c36 (all_f c36 (all_t c38 (all_f c36 (all_f c40 (all_t c42 (all_t c42 (all_f c44 (all_f c44 (all_f c44 (all_f c47 (all_f c47 (all_f c47 (all_f c47 (all_f c47 (all_f c47 (all_f c53 (all_t c55 (all_t c56 (all_t c56 all_nil))))))))))))))))))))))))))))))))))))))))))))))))))))))))) ?_
    intro p hp p2 hq
    rcases List.mem_cons.1 hp with rfl | hp
    · skip
      have h3 := l5_0_ok m (m + 24) ((vecG x0)) ((withinI x2 (3) (5))) ((withinI x1 (-50) (50))) ((scaleG (3) (vecG x0) (0) false).1) ((((List.length (scaleG (3) (vecG x0) (0) false).1) : Nat) : Int)) 0 _ (some_getD (d := l5_0D) c41)
      exact Eq.trans (Eq.mp (by kernel_rfl) h3) hq
    rcases List.mem_cons.1 hp with rfl | hp
    · skip
      have h3 := l5_1_ok m (m + 24) (((vecG x0))) (((withinI x2 (3) (5)))) ((scaleG ((withinI x2 (3) (5))) ((vecG x0)) ((withinI x1 (-50) (50))) true).1) ((scaleG ((withinI x2 (3) (5))) ((vecG x0)) ((withinI x1 (-50) (50))) false).1) ((((List.length (scaleG ((withinI x2 (3) (5))) ((vecG x0)) ((withinI x1 (-50) (50))) true).1) : Nat) : Int)) 0 _ (some_getD (d := l5_1D) c54)
      exact Eq.trans (Eq.mp (by kernel_rfl) h3) hq
    cases hp
theorem vmath_at (x0 : Q1) (x1 : Int) (x2 : Int) (h : ∃ m q, vmath m x0 x1 x2 = some q) : ∃ g B', CallAt Tryd.prog 5 g ∧ (g [(.agg [(.d (.sl (.pair (.sl (.int .i64)) (.sl (.int .i64))) x0.1)), (.d (.sl (.int .i64) x0.2))]), (.d (.int .i64 x1)), (.d (.int .i64 x2))] []).run = some (.d (.bool true), B') := by
  obtain ⟨m, q, h⟩ := h
  exact ⟨_, _, evCall_atH mixed kinds hds S36 S36_ok (m + 25) 5, vmath_ok m x0 x1 x2 q h⟩

end Go.Proofs.YtahdcmicifokgaaDoor.Dec
namespace Go.Proofs.YtahdcmicifokgaaDoor.Dec
open Go.Ev
set_option linter.unusedVariables false
set_option linter.unusedSimpArgs false
set_option maxRecDepth 100000
set_option maxHeartbeats 20000000
theorem mem_of_sort {l : VL} {p : PT1} (h : p ∈ sortG l) : p ∈ l := (perm_sort l).mem_iff.1 h
theorem vecGo_mem (vals : List Int) : ∀ (ks : List (List Int × List Int)) (i : Nat) (keys : Q3) (out : VL) (p : PT1), p ∈ vecGo vals i ks keys out → p ∈ out ∨ ∃ k v, p.1 = ptSet k v
  | [], i, keys, out, p, h => .inl h
  | k :: ks, i, keys, out, p, h => by
    rw [vecGo] at h
    split at h
    · exact vecGo_mem vals ks (i + 1) keys out p h
    · rcases vecGo_mem vals ks (i + 1) _ _ p h with h | h
      · rcases List.mem_append.1 h with h | h
        · exact .inl h
        · rw [List.mem_singleton.1 h]; exact .inr ⟨_, _, rfl⟩
      · exact .inr h
theorem set4_filter (p : (Q4) × (Q4) → Bool) (f : Q4 → Bool) (hp : ∀ x, p x = f x.1) (h0 h1 h2 h3 : Bool) (v0 v1 v2 v3 : Q4) : (set4 h0 h1 h2 h3 v0 v1 v2 v3).filter p = set4 (h0 && f [97]) (h1 && f [98]) (h2 && f [99]) (h3 && f [110, 97, 109, 101]) v0 v1 v2 v3 := by
  have one : ∀ (h : Bool) (n v : Q4), (if h then [(n, v)] else []).filter p = (if (h && f n) then [(n, v)] else []) := by
    intro h n v
    cases h with
    | false => rfl
    | true =>
      rw [Bool.true_and, if_pos rfl, List.filter_cons, hp]
      cases f n <;> rfl
  unfold set4
  rw [List.filter_append, List.filter_append, List.filter_append, one, one, one, one]
theorem key_right {k : (List (List Int × List Int)) × List Int} {p : PT1} (h : p ∈ vecG k) : lrightG (pkeyG p) = true := by
  rcases vecGo_mem k.2 (k.1.take 8) 0 [] [] p h with h | ⟨k', v, e⟩
  · simp at h
  · obtain ⟨a0, a1, a2, a3, v0, v1, v2, v3, q1, q2, q3, q4, q5⟩ := pt_set4 k' v
    unfold pkeyG dropG
    rw [e, q1, set4_filter _ (fun n => !([([110, 97, 109, 101] : Q4)].contains n)) (fun x => rfl)]
    exact set4_right _ _ _ _ q2 q3 q4 q5
theorem key_key (k : LB) (v : Int) (p : PT1) (h : k = pkeyG p) : pkeyG (k, v) = k := by
  subst h
  unfold pkeyG dropG
  rw [List.filter_filter]
  congr 1
  funext x
  rw [Bool.and_self]
theorem get_none : ∀ l : LB, (∀ x ∈ l, x.1 ≠ ([110, 97, 109, 101] : Q4)) → getG l [110, 97, 109, 101] = []
  | [], _ => rfl
  | x :: l, h => by
    rw [getG, if_neg (by rw [beq_iff_eq]; exact h x (List.mem_cons_self ..)), get_none l fun y hy => h y (List.mem_cons_of_mem _ hy)]
theorem get_key (p : PT1) : getG (pkeyG p) [110, 97, 109, 101] = [] := get_none _ fun x hx e => by
  have := (List.mem_filter.1 hx).2
  rw [e] at this
  simp at this
theorem KG_inj {l : VL} (h : KG l) : ∀ p ∈ l, ∀ q ∈ l, pkeyG p = pkeyG q → p = q := by
  induction l with
  | nil => intro p hp; simp at hp
  | cons x r ih =>
    have hp := List.pairwise_cons.1 h
    intro p p1 q q1 e
    rcases List.mem_cons.1 p1 with h1 | h1 <;> rcases List.mem_cons.1 q1 with h2 | h2
    · rw [h1, h2]
    · rw [h1] at e; exact absurd e (hp.1 q h2)
    · rw [h2] at e; exact absurd e.symm (hp.1 p h1)
    · exact ih hp.2 p h1 q h2 e
theorem fIdx_sat (c : PT1 → Bool) : ∀ (l : VL) (k : Nat), 0 ≤ fIdx c l k → ∃ i, fIdx c l k = ((k + i : Nat) : Int) ∧ i < l.length ∧ c (l.getD i (([] : LB), 0)) = true
  | [], k, h => by simp [fIdx] at h
  | x :: l, k, h => by
    rw [fIdx] at h ⊢
    by_cases hc : c x = true
    · rw [if_pos hc]
      exact ⟨0, rfl, by simp, hc⟩
    · rw [if_neg hc] at h ⊢
      obtain ⟨i, h1, h2, h3⟩ := fIdx_sat c l (k + 1) h
      exact ⟨i + 1, by rw [h1]; congr 1; omega, by simp; omega, by simpa using h3⟩
theorem atK_is {l : VL} (h : KG l) {p : PT1} (hp : p ∈ l) : atK l (pkeyG p) = p.2 := by
  have hge : findG l (pkeyG p) ≥ 0 := (find_has _ _).2 (has_mem hp)
  obtain ⟨i, h1, h2, h3⟩ := fIdx_sat (fun q => pkeyG q == pkeyG p) l 0 hge
  have hf : findG l (pkeyG p) = ((i : Nat) : Int) := by
    have h1 : findG l (pkeyG p) = ((0 + i : Nat) : Int) := h1
    rw [Nat.zero_add] at h1
    exact h1
  unfold atK
  rw [hf, Int.toNat_natCast, KG_inj h _ (getD_mem l i (([] : LB), 0) h2) p hp (eq_of_beq h3)]
theorem fErr_none {c : PT1 → Int} : ∀ l : VL, (∀ p ∈ l, c p = 0) → fErr c l = 0
  | [], _ => rfl
  | p :: r, h => by rw [fErr, if_neg (fun z => z (h p (List.mem_cons_self ..)))]; exact fErr_none r fun q hq => h q (List.mem_cons_of_mem _ hq)
theorem fErr_all {c : PT1 → Int} {e : Int} (he : e ≠ 0) : ∀ l : VL, (∀ p, c p = e) → fErr c l = if l = [] then 0 else e
  | [], _ => rfl
  | p :: r, h => by rw [fErr, h p, if_pos he]; simp
def mapK (f : PT1 → Int) (l : VL) : VL := l.map fun p => (pkeyG p, f p)
theorem mapK_KG (f : PT1 → Int) {l : VL} (h : KG l) : KG (mapK f l) := by
  unfold KG mapK
  rw [List.pairwise_map]
  exact h.imp fun {p q} hne he => hne (by rw [key_key _ _ p rfl, key_key _ _ q rfl] at he; exact he)
theorem mapK_DG (f : PT1 → Int) {l : VL} (h : KG l) (hr : ∀ p ∈ l, lrightG (pkeyG p) = true) : DG (mapK f l) := by
  unfold DG mapK
  rw [List.pairwise_map]
  exact List.Pairwise.imp_of_mem (fun {p q} hp hq hne he => hne (lprint_inj (hr p hp) (hr q hq) he)) h
theorem mapK_mapK (f g : PT1 → Int) (l : VL) : mapK g (mapK f l) = l.map fun p => (pkeyG p, g (pkeyG p, f p)) := by
  unfold mapK
  rw [List.map_map]
  congr 1
  funext p
  show (pkeyG (pkeyG p, f p), _) = _
  rw [key_key _ _ p rfl]
theorem map_congr_mem {f g : PT1 → Int} {l : VL} (h : ∀ p ∈ l, f p = g p) : mapK f l = mapK g l := List.map_congr_left fun p hp => by rw [h p hp]
theorem sort_neg_insR (x : PT1) (g : PT1 → PT1) (hg : ∀ p, (g p).1 = p.1) : ∀ r : VL, insR (g x) (r.map g) = (insR x r).map g
  | [] => rfl
  | y :: r => by
    have hl : ltP (g x) (g y) = ltP x y := by unfold ltP; rw [hg, hg]
    rw [List.map_cons, insR, insR, hl, sort_neg_insR x g hg r]
    split <;> rfl
theorem sort_neg_foldR (g : PT1 → PT1) (hg : ∀ p, (g p).1 = p.1) : ∀ (l acc : VL), foldR (acc.map g) (l.map g) = (foldR acc l).map g
  | [], acc => rfl
  | x :: l, acc => by
    show foldR (insR (g x) (acc.map g)) (l.map g) = (foldR (insR x acc) l).map g
    rw [sort_neg_insR x g hg acc, sort_neg_foldR g hg l]
theorem sort_map (g : PT1 → PT1) (hg : ∀ p, (g p).1 = p.1) (l : VL) : sortG (l.map g) = (sortG l).map g := by
  unfold sortG
  rw [show ([] : VL) = ([] : VL).map g from rfl, sort_neg_foldR g hg l [], ← List.map_reverse]
  rfl
theorem scale_is {kind v : Int} {first : Bool} {X : VL} (h1 : twiceG X = false) (h2 : ∀ p ∈ X, (rkG kind v first p).2 = 0) : scaleG kind X v first = (sortG (mapK (fun p => (rkG kind v first p).1) X), 0) := by
  unfold scaleG
  have hne : ¬ (fErr (fun p => (rkG kind v first p).2) X ≠ 0) := fun z => z (fErr_none X h2)
  rw [h1, if_neg (by simp), if_neg hne]
  rfl
theorem math_is {kind : Int} {A X : VL} (h1 : twiceG A = false) (h2 : twiceG X = false) (h3 : ∀ p ∈ A, hasK X (pkeyG p) = true) (h4 : ∀ p ∈ A, (mkG kind X p).2 = 0) : mathG kind A X = (sortG (mapK (fun p => (mkG kind X p).1) A), 0) := by
  unfold mathG
  have hb : bothG A X = A := List.filter_eq_self.2 h3
  have hne : ¬ (fErr (fun p => (mkG kind X p).2) A ≠ 0) := fun z => z (fErr_none A h4)
  rw [h1, h2, if_neg (by simp), if_neg (by simp), hb, if_neg hne]
  rfl
theorem ord_loop (m : Nat) (X : VL) (K M : Int) (L : VL) (hl : L.length ≤ 8) (hp : ∀ p ∈ L, lrightPre p.1 = true ∧ getG p.1 [110, 97, 109, 101] = []) (hs : L.Pairwise fun p q => ltP p q = true) : ∀ (n k : Nat), k ≤ L.length → L.length - k < n →
    ∃ j, l5_0 m n X K M L ((L.length : Nat) : Int) (k : Nat) = some (0, j)
  | 0, k, _, h => by omega
  | n + 1, k, h1, h2 => by
    rw [l5_0]
    by_cases hk : k < L.length
    · have e1 : decide (((k : Nat) : Int) < (((List.length L) : Nat) : Int)) = true := decide_eq_true (by omega)
      have e2 : decide ((0 : Int) ≤ ((k : Nat) : Int)) = true := decide_eq_true (by omega)
      have e7 : IntKind.wrap .i64 (((k : Nat) : Int) + (1)) = ((k + 1 : Nat) : Int) := by rw [wrap_id (by omega) (by omega)]; rfl
      have ih := ord_loop m X K M L hl hp hs n (k + 1) (by omega) (by omega)
      have hq := hp _ (getD_mem L k (([] : LB), 0) hk)
      have hlen := (of_decide_eq_true hq.1).1
      have hg : (getG (L.getD k (([] : LB), 0)).1 ([110, 97, 109, 101] : Q4) == ([] : Q4)) = true := by rw [hq.2]; rfl
      rw [show Int.toNat ((k : Nat) : Int) = k from rfl, e7, if_pos e1, if_pos e2, if_pos e1, if_pos (decide_eq_true hlen), if_pos hg]
      by_cases h0 : 0 < k
      · have f1 : decide (((k : Nat) : Int) > 0) = true := decide_eq_true (by omega)
        have f2 : IntKind.wrap .i64 (((k : Nat) : Int) - (1)) = ((k - 1 : Nat) : Int) := by rw [wrap_id (by omega) (by omega)]; omega
        have f3 : decide ((0 : Int) ≤ ((k - 1 : Nat) : Int)) = true := decide_eq_true (by omega)
        have f4 : decide (((k - 1 : Nat) : Int) < (((List.length L) : Nat) : Int)) = true := decide_eq_true (by omega)
        have hq2 := hp _ (getD_mem L (k - 1) (([] : LB), 0) (by omega))
        have hlt : ltP (L.getD (k - 1) (([] : LB), 0)) (L.getD k (([] : LB), 0)) = true := by
          have := List.pairwise_iff_getElem.1 hs (k - 1) k (by omega) hk (by omega)
          rw [List.getD_eq_getElem?_getD, List.getD_eq_getElem?_getD, List.getElem?_eq_getElem hk, List.getElem?_eq_getElem (show k - 1 < L.length by omega)]
          exact this
        have hlt2 : Lib.compareBytes (lprintG (L.getD (k - 1) (([] : LB), 0)).1) (lprintG (L.getD k (([] : LB), 0)).1) < 0 := of_decide_eq_true hlt
        rw [f2, Int.toNat_natCast, if_pos f1, if_pos f3, if_pos f4, if_pos hq2.1, if_pos hq.1, decide_eq_false (by omega), if_neg (by simp)]
        exact ih
      · rw [decide_eq_false (by omega), if_neg (by simp)]
        exact ih
    · have e1 : decide (((k : Nat) : Int) < (((List.length L) : Nat) : Int)) = false := decide_eq_false (by omega)
      rw [e1, if_neg (by simp)]
      exact ⟨_, rfl⟩
theorem eqv_loop (m : Nat) (X : VL) (K : Int) (Y Z : VL) (hl : Y.length = Z.length) (hy : Y.length ≤ 8) (h1 : K ≠ 4 → Y = Z) (h2 : K = 4 → ∀ i, i < Y.length → (Y.getD i (([] : LB), 0)).2 = IntKind.wrap .i64 (0 - (Z.getD i (([] : LB), 0)).2)) : ∀ (n k : Nat), k ≤ Y.length → Y.length - k < n →
    ∃ j, l5_1 m n X K Y Z ((Y.length : Nat) : Int) (k : Nat) = some (0, j)
  | 0, k, _, h => by omega
  | n + 1, k, g1, g2 => by
    rw [l5_1]
    by_cases hk : k < Y.length
    · have e1 : decide (((k : Nat) : Int) < (((List.length Y) : Nat) : Int)) = true := decide_eq_true (by omega)
      have e2 : decide ((0 : Int) ≤ ((k : Nat) : Int)) = true := decide_eq_true (by omega)
      have e3 : decide (((k : Nat) : Int) < (((List.length Z) : Nat) : Int)) = true := decide_eq_true (by omega)
      have e7 : IntKind.wrap .i64 (((k : Nat) : Int) + (1)) = ((k + 1 : Nat) : Int) := by rw [wrap_id (by omega) (by omega)]; rfl
      have ih := eqv_loop m X K Y Z hl hy h1 h2 n (k + 1) (by omega) (by omega)
      rw [show Int.toNat ((k : Nat) : Int) = k from rfl, e7]
      simp only [e1, e2, e3, ↓reduceIte]
      by_cases h4 : K = 4
      · have z1 : (K != 4) = false := by rw [h4]; rfl
        have z2 : (K == 4) = true := by rw [h4]; rfl
        have z3 := h2 h4 k hk
        have z4 : ((Y.getD k (([] : LB), 0)).2 != IntKind.wrap .i64 (0 - (Z.getD k (([] : LB), 0)).2)) = false := by rw [z3]; exact bne_self_eq_false _
        simp only [z1, z2, z4, ↓reduceIte, Bool.false_eq_true]
        exact ih
      · have z1 : (K != 4) = true := by rw [bne_iff_ne]; exact h4
        have z2 : (K == 4) = false := by rw [beq_eq_false_iff_ne]; exact h4
        have z4 : ((Y.getD k (([] : LB), 0)).2 != (Z.getD k (([] : LB), 0)).2) = false := by rw [h1 h4]; exact bne_self_eq_false _
        simp only [z1, z2, z4, ↓reduceIte, Bool.false_eq_true]
        exact ih
    · have e1 : decide (((k : Nat) : Int) < (((List.length Y) : Nat) : Int)) = false := decide_eq_false (by omega)
      rw [e1, if_neg (by simp)]
      exact ⟨_, rfl⟩
theorem within_in (x lo hi : Int) (h : lo ≤ hi) : lo ≤ withinI x lo hi ∧ withinI x lo hi ≤ hi := by
  have h1 := Int.emod_nonneg x (show hi - lo + 1 ≠ 0 by omega)
  have h2 := Int.emod_lt_of_pos x (show 0 < hi - lo + 1 by omega)
  unfold withinI
  omega
theorem vmath_pure (x0 : (List (List Int × List Int)) × List Int) (x1 x2 : Int) : ∃ m q, vmath m x0 x1 x2 = some q := by
  obtain ⟨a1, a2, a3⟩ := vec_ok x0
  have hr : ∀ p ∈ vecG x0, lrightG (pkeyG p) = true := fun p h => key_right h
  have hM := within_in x1 (-50) 50 (by omega)
  have hK := within_in x2 3 5 (by omega)
  generalize hX : vecG x0 = X at a1 a2 a3 hr
  have px := pre_of (show X.length < 20 by omega) a2
  have vx := sort_v px
  have sx : smallV X = true := decide_eq_true fun p hp => by have := a2 p hp; unfold PG at this; omega
  have mxx : mathPre X X = true := by unfold mathPre; rw [px, sx]; rfl
  have scp : ∀ v : Int, -1000000 ≤ v ∧ v ≤ 1000000 → scalePre X v = true := fun v hv => by unfold scalePre; rw [px, sx, decide_eq_true hv]; rfl
  refine ⟨0, (), ?_⟩
  unfold vmath
  rw [hX]
  generalize withinI x1 (-50) 50 = M at hM
  generalize withinI x2 3 5 = K at hK
  rw [if_pos vx]
  by_cases t1 : twiceG X = true
  · have e1 : ((scaleG K X M false).2 == 5) = true := by unfold scaleG; rw [if_pos t1]; rfl
    have e2 : ((mathG K X X).2 == 5) = true := by unfold mathG; rw [if_pos t1]; rfl
    rw [if_pos t1, if_pos (scp M (by omega)), if_pos mxx, if_pos e1, if_pos e2]
  · have u1 : twiceG X = false := by simpa using t1
    have kx := (twice_iff X).1 u1
    have bd : ∀ p ∈ X, -9 ≤ p.2 ∧ p.2 ≤ 20 := fun p hp => (a2 p hp).2
    -- the sum
    have s_is : mathG 3 X X = (sortG (mapK (fun p => p.2 + p.2) X), 0) := by
      rw [math_is u1 u1 (fun p hp => has_mem hp) (fun p hp => rfl)]
      rw [show mapK (fun p => (mkG 3 X p).1) X = mapK (fun p => p.2 + p.2) X from map_congr_mem fun p hp => by show p.2 + atK X (pkeyG p) = _; rw [atK_is kx hp]]
    have sP := perm_sort (mapK (fun p => p.2 + p.2) X)
    have sK : KG (sortG (mapK (fun p => p.2 + p.2) X)) := KG_perm sP.symm (mapK_KG _ kx)
    have sT := (twice_iff _).2 sK
    have sm : ∀ q ∈ sortG (mapK (fun p => p.2 + p.2) X), ∃ p ∈ X, q = (pkeyG p, p.2 + p.2) := fun q hq => by
      obtain ⟨p, h1, h2⟩ := List.mem_map.1 (mem_of_sort hq)
      exact ⟨p, h1, h2.symm⟩
    have keyX : ∀ f : PT1 → Int, ∀ q ∈ sortG (mapK f X), lrightPre q.1 = true ∧ getG q.1 [110, 97, 109, 101] = [] := fun f q hq => by
      obtain ⟨p, h1, h2⟩ := List.mem_map.1 (mem_of_sort hq)
      rw [← h2]
      exact ⟨set4_pre (hr p h1), get_key p⟩
    have preX : ∀ f : PT1 → Int, sortPre (sortG (mapK f X)) = true := fun f => decide_eq_true ⟨by rw [len_sortG]; unfold mapK; rw [List.length_map]; omega, fun q hq => (keyX f q hq).1⟩
    have lenX : ∀ f : PT1 → Int, (sortG (mapK f X)).length = X.length := fun f => by rw [len_sortG]; unfold mapK; rw [List.length_map]
    have d_is : mathG 4 (sortG (mapK (fun p => p.2 + p.2) X)) X = (sortG (mapK (fun p => p.2) X), 0) := by
      have hkey : ∀ q ∈ sortG (mapK (fun p => p.2 + p.2) X), ∃ p ∈ X, q.2 = p.2 + p.2 ∧ pkeyG q = pkeyG p := fun q hq => by
        obtain ⟨p, h1, rfl⟩ := sm q hq
        exact ⟨p, h1, rfl, key_key _ _ p rfl⟩
      rw [math_is sT u1 (fun q hq => by
        obtain ⟨p, h1, _, h3⟩ := hkey q hq
        rw [h3]; exact has_mem h1) (fun q hq => rfl)]
      congr 1
      have hperm : (mapK (fun q => (mkG 4 X q).1) (sortG (mapK (fun p => p.2 + p.2) X))).Perm (mapK (fun p => p.2) X) := by
        have h1 := (perm_sort (mapK (fun p => p.2 + p.2) X)).map (fun q : PT1 => (pkeyG q, (mkG 4 X q).1))
        have h2 : (mapK (fun p => p.2 + p.2) X).map (fun q : PT1 => (pkeyG q, (mkG 4 X q).1)) = mapK (fun p => p.2) X := by
          rw [show (mapK (fun p => p.2 + p.2) X).map (fun q : PT1 => (pkeyG q, (mkG 4 X q).1)) = mapK (fun q => (mkG 4 X q).1) (mapK (fun p => p.2 + p.2) X) from rfl, mapK_mapK]
          exact List.map_congr_left fun p hp => by
            show (pkeyG p, (p.2 + p.2) - atK X (pkeyG (pkeyG p, p.2 + p.2))) = (pkeyG p, p.2)
            rw [key_key _ _ p rfl, atK_is kx hp]
            congr 1
            omega
        rw [h2] at h1
        exact h1
      exact sort_perm hperm (DG_perm hperm.symm (mapK_DG _ kx hr))
    have two_is : scaleG 5 X 2 false = (sortG (mapK (fun p => p.2 + p.2) X), 0) := by
      rw [scale_is u1 (fun p hp => rfl)]
      rw [show mapK (fun p => (rkG 5 2 false p).1) X = mapK (fun p => p.2 + p.2) X from map_congr_mem fun p hp => by show p.2 * 2 = _; omega]
    have bare_is : scaleG 3 X 0 false = (sortG (mapK (fun p => p.2) X), 0) := by
      rw [scale_is u1 (fun p hp => rfl)]
      rw [show mapK (fun p => (rkG 3 0 false p).1) X = mapK (fun p => p.2) X from map_congr_mem fun p hp => by show p.2 + 0 = _; omega]
    have bT : twiceG (sortG (mapK (fun p => p.2) X)) = false := (twice_iff _).2 (KG_perm (perm_sort _).symm (mapK_KG _ kx))
    have kinds : K = 3 ∨ K = 4 ∨ K = 5 := by omega
    have noerr : ∀ first, ∀ p ∈ X, (rkG K M first p).2 = 0 := fun first p hp => by
      rcases kinds with h | h | h <;> subst h <;> cases first <;> rfl
    have y_is := scale_is u1 (noerr true)
    have z_is := scale_is u1 (noerr false)
    have zero_is : (scaleG 6 X 0 false).2 = if X = [] then 0 else 4 := by
      have hE := fErr_all (c := fun p => (rkG 6 0 false p).2) (e := 4) (by omega) X (fun p => rfl)
      unfold scaleG
      rw [u1, if_neg (by simp)]
      by_cases h0 : X = []
      · have hne : ¬ (fErr (fun p => (rkG 6 0 false p).2) X ≠ 0) := fun z => z (by rw [hE, if_pos h0])
        rw [if_neg hne, if_pos h0]
      · have hne : fErr (fun p => (rkG 6 0 false p).2) X ≠ 0 := by rw [hE, if_neg h0]; omega
        rw [if_pos hne, hE]
    have zfin : (((scaleG 6 X 0 false).2 == 4) == decide ((((List.length X) : Nat) : Int) > 0)) = true := by
      rw [zero_is]
      by_cases h0 : X = []
      · rw [if_pos h0, h0]; rfl
      · have : 0 < X.length := by cases X with | nil => exact absurd rfl h0 | cons a r => simp
        rw [if_neg h0, decide_eq_true (by omega)]; rfl
    have msx : mathPre (sortG (mapK (fun p => p.2 + p.2) X)) X = true := by
      have : smallV (sortG (mapK (fun p => p.2 + p.2) X)) = true := decide_eq_true fun q hq => by
        obtain ⟨p, h1, rfl⟩ := sm q hq
        have := bd p h1
        show -1000000 ≤ p.2 + p.2 ∧ p.2 + p.2 ≤ 1000000
        omega
      unfold mathPre
      rw [preX, px, this, sx]; rfl
    have ol := ord_loop 0 X K M (sortG (mapK (fun p => p.2) X)) (by rw [lenX]; exact a1) (keyX _) (sorted_sort (mapK_DG _ kx hr)) (0 + 24) 0 (by omega) (by rw [lenX]; omega)
    obtain ⟨j1, ol⟩ := ol
    have hneg : K = 4 → sortG (mapK (fun p => (rkG K M true p).1) X) = (sortG (mapK (fun p => (rkG K M false p).1) X)).map (fun q : PT1 => (q.1, -q.2)) := fun h => by
      rw [← sort_map (fun q : PT1 => (q.1, -q.2)) (fun q => rfl)]
      congr 1
      unfold mapK
      rw [List.map_map]
      exact List.map_congr_left fun p hp => by
        subst h
        show (pkeyG p, M - p.2) = (pkeyG p, -(p.2 - M))
        congr 1
        omega
    have zb : K = 4 → ∀ q ∈ sortG (mapK (fun p => (rkG K M false p).1) X), -1000 ≤ q.2 ∧ q.2 ≤ 1000 := fun h q hq => by
      obtain ⟨p, h1, h2⟩ := List.mem_map.1 (mem_of_sort hq)
      have := bd p h1
      subst h
      rw [← h2]
      show -1000 ≤ p.2 - M ∧ p.2 - M ≤ 1000
      omega
    obtain ⟨j2, el⟩ := eqv_loop 0 X K (sortG (mapK (fun p => (rkG K M true p).1) X)) (sortG (mapK (fun p => (rkG K M false p).1) X)) (by rw [lenX, lenX]) (by rw [lenX]; exact a1)
      (fun h4 => by
        congr 1
        exact map_congr_mem fun p hp => by
          rcases kinds with h | h | h
          · subst h; show M + p.2 = p.2 + M; omega
          · exact absurd h h4
          · subst h; show M * p.2 = p.2 * M; exact Int.mul_comm ..)
      (fun h4 i hi => by
        have hi' : i < (sortG (mapK (fun p => (rkG K M false p).1) X)).length := by rw [lenX] at hi ⊢; exact hi
        have hb := zb h4 _ (getD_mem _ i (([] : LB), 0) hi')
        rw [wrap_id (by omega) (by omega), hneg h4, List.getD_eq_getElem?_getD, List.getElem?_map, List.getElem?_eq_getElem hi', List.getD_eq_getElem?_getD, List.getElem?_eq_getElem hi']
        show -(sortG (mapK (fun p => (rkG K M false p).1) X))[i].2 = 0 - (sortG (mapK (fun p => (rkG K M false p).1) X))[i].2
        omega) (0 + 24) 0 (by omega) (by rw [lenX]; omega)
    rw [lenX] at ol el
    have bq : ((0 : Int) != 0) = false := rfl
    have pt : ∀ f : PT1 → Int, ptsPre (sortG (mapK f X)) = true ∧ vPre (sortG (mapK f X)) = true := fun f => ⟨sort_v (preX f), sort_v (preX f)⟩
    have r0 : ∀ l : VL, ((show List (List (Q4 × Q4) × Int) from l) == l) = true := fun l => beq_self_eq_true l
    have ol' : l5_0 0 (0 + 24) X K M (sortG (mapK (fun p => p.2) X)) ((X.length : Nat) : Int) 0 = some (0, j1) := ol
    have el' : l5_1 0 (0 + 24) X K (sortG (mapK (fun p => (rkG K M true p).1) X)) (sortG (mapK (fun p => (rkG K M false p).1) X)) ((X.length : Nat) : Int) 0 = some (0, j2) := el
    simp only [u1, mxx, s_is, msx, scp 2 (by omega), scp 0 (by omega), scp M (by omega), d_is, two_is, bare_is, bq, pt, r0, lenX, bT, ol', y_is, z_is, el', zfin, bne_self_eq_false, Option.isSome_some, ↓reduceIte, Bool.false_eq_true]
theorem vmath_law (x0 : (List (List Int × List Int)) × List Int) (x1 x2 : Int) : ∃ g B', CallAt Tryd.prog 5 g ∧ (g [argAV true (.pair (.sl (.pair (.sl (.int .i64)) (.sl (.int .i64)))) (.sl (.int .i64))) x0, argAV false (.int .i64) x1, argAV false (.int .i64) x2] []).run = some (.d (.bool true), B') := vmath_at x0 x1 x2 (vmath_pure x0 x1 x2)

end Go.Proofs.YtahdcmicifokgaaDoor.Dec
