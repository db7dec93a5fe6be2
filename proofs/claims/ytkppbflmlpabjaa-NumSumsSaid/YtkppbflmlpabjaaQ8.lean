/- NumSums, as a plain function. NumSums: its plain law. -/
import Derived.Test.YtkppbflmlpabjaaQ7
import Derived.KernelRfl
namespace Go.Proofs.Ytkppbflmlpabjaa.Dec
open Go.Ev
set_option linter.unusedVariables false
set_option linter.unusedSimpArgs false
set_option maxRecDepth 100000
set_option maxHeartbeats 20000000 in
theorem sums_ok (m : Nat) (x0 : List Int) (x1 : Int) (x2 : Int) (x3 : Int) (q : Unit) (h : sums m x0 x1 x2 x3 = some q) : (evCall F S9 (m + 25) 4 [(.d (.sl (.int .i64) x0)), (.d (.int .i64 x1)), (.d (.int .i64 x2)), (.d (.int .i64 x3))] []).run = some (.d (.bool true), []) := by
  unfold sums at h
  refine ite_cases h (fun c0 h => ?_) (fun c0 h => ?_)
  · skip
    refine ite_cases h (fun c1 h => ?_) (fun c1 h => ?_)
    · skip
      refine ite_cases h (fun c3 h => ?_) (fun c3 h => ?_)
      · skip
        refine ite_cases h (fun c4 h => ?_) (fun c4 h => ?_)
        · skip
          refine ite_cases h (fun c5 h => ?_) (fun c5 h => ?_)
          · skip
            refine ite_cases h (fun c6 h => ?_) (fun c6 h => ?_)
            · skip
              refine ite_cases h (fun c7 h => ?_) (fun c7 h => ?_)
              · skip
                refine ite_cases h (fun c8 h => ?_) (fun c8 h => ?_)
                · skip
                  refine ite_cases h (fun c9 h => ?_) (fun c9 h => ?_)
                  · skip
                    refine ite_cases h (fun c10 h => ?_) (fun c10 h => ?_)
                    · skip
                      refine ite_cases h (fun c12 h => ?_) (fun c12 h => ?_)
                      · skip
                        refine ite_cases h (fun c13 h => ?_) (fun c13 h => ?_)
                        · skip
                          refine ite_cases h (fun c15 h => ?_) (fun c15 h => ?_)
                          · skip
                            refine ite_cases h (fun c16 h => ?_) (fun c16 h => ?_)
                            · skip
                              refine ite_cases h (fun c17 h => ?_) (fun c17 h => ?_)
                              · skip
                                refine ite_cases h (fun c19 h => ?_) (fun c19 h => ?_)
                                · skip
                                  refine ite_cases h (fun c22 h => ?_) (fun c22 h => ?_)
                                  · skip
                                    refine ite_cases h (fun c25 h => ?_) (fun c25 h => ?_)
                                    · skip
                                      refine ite_cases h (fun c28 h => ?_) (fun c28 h => ?_)
                                      · skip
                                        refine ite_cases h (fun c32 h => ?_) (fun c32 h => ?_)
                                        · skip
                                          cases h
                                        · skip
                                          refine ite_cases h (fun c36 h => ?_) (fun c36 h => ?_)
                                          · skip
                                            refine ite_cases h (fun c41 h => ?_) (fun c41 h => ?_)
                                            · skip
                                              refine ite_cases h (fun c52 h => ?_) (fun c52 h => ?_)
                                              · skip
                                                refine ite_cases h (fun c54 h => ?_) (fun c54 h => ?_)
                                                · skip
                                                  refine ite_cases h (fun c60 h => ?_) (fun c60 h => ?_)
                                                  · skip
                                                    refine ite_cases h (fun c63 h => ?_) (fun c63 h => ?_)
                                                    · skip
                                                      refine ite_cases h (fun c68 h => ?_) (fun c68 h => ?_)
                                                      · skip
                                                        refine ite_cases h (fun c85 h => ?_) (fun c85 h => ?_)
                                                        · skip
                                                          refine ite_cases h (fun c92 h => ?_) (fun c92 h => ?_)
                                                          · skip
                                                            refine ite_cases h (fun c97 h => ?_) (fun c97 h => ?_)
                                                            · skip
                                                              cases h
                                                              exact sums_w0 m x0 x1 x2 x3 c0 c1 c3 c4 c5 c6 c7 c8 c9 c10 c12 c13 c15 c16 c17 c19 c22 c25 c28 c32 c36 c41 c52 c54 c60 c63 c68 c85 c92 c97
                                                            · skip
                                                              cases h
                                                          · skip
                                                            cases h
                                                        · skip
                                                          cases h
                                                      · skip
                                                        refine ite_cases h (fun c77 h => ?_) (fun c77 h => ?_)
                                                        · skip
                                                          refine ite_cases h (fun c85 h => ?_) (fun c85 h => ?_)
                                                          · skip
                                                            refine ite_cases h (fun c92 h => ?_) (fun c92 h => ?_)
                                                            · skip
                                                              refine ite_cases h (fun c97 h => ?_) (fun c97 h => ?_)
                                                              · skip
                                                                cases h
                                                                exact sums_w1 m x0 x1 x2 x3 c0 c1 c3 c4 c5 c6 c7 c8 c9 c10 c12 c13 c15 c16 c17 c19 c22 c25 c28 c32 c36 c41 c52 c54 c60 c63 c68 c77 c85 c92 c97
                                                              · skip
                                                                cases h
                                                            · skip
                                                              cases h
                                                          · skip
                                                            cases h
                                                        · skip
                                                          cases h
                                                    · skip
                                                      refine ite_cases h (fun c77 h => ?_) (fun c77 h => ?_)
                                                      · skip
                                                        refine ite_cases h (fun c85 h => ?_) (fun c85 h => ?_)
                                                        · skip
                                                          refine ite_cases h (fun c92 h => ?_) (fun c92 h => ?_)
                                                          · skip
                                                            refine ite_cases h (fun c97 h => ?_) (fun c97 h => ?_)
                                                            · skip
                                                              cases h
                                                              exact sums_w2 m x0 x1 x2 x3 c0 c1 c3 c4 c5 c6 c7 c8 c9 c10 c12 c13 c15 c16 c17 c19 c22 c25 c28 c32 c36 c41 c52 c54 c60 c63 c77 c85 c92 c97
                                                            · skip
                                                              cases h
                                                          · skip
                                                            cases h
                                                        · skip
                                                          cases h
                                                      · skip
                                                        cases h
                                                  · skip
                                                    cases h
                                                · skip
                                                  cases h
                                              · skip
                                                cases h
                                            · skip
                                              cases h
                                          · skip
                                            cases h
                                      · skip
                                        refine ite_cases h (fun c36 h => ?_) (fun c36 h => ?_)
                                        · skip
                                          refine ite_cases h (fun c41 h => ?_) (fun c41 h => ?_)
                                          · skip
                                            refine ite_cases h (fun c52 h => ?_) (fun c52 h => ?_)
                                            · skip
                                              refine ite_cases h (fun c54 h => ?_) (fun c54 h => ?_)
                                              · skip
                                                refine ite_cases h (fun c60 h => ?_) (fun c60 h => ?_)
                                                · skip
                                                  refine ite_cases h (fun c63 h => ?_) (fun c63 h => ?_)
                                                  · skip
                                                    refine ite_cases h (fun c68 h => ?_) (fun c68 h => ?_)
                                                    · skip
                                                      refine ite_cases h (fun c85 h => ?_) (fun c85 h => ?_)
                                                      · skip
                                                        refine ite_cases h (fun c92 h => ?_) (fun c92 h => ?_)
                                                        · skip
                                                          refine ite_cases h (fun c97 h => ?_) (fun c97 h => ?_)
                                                          · skip
                                                            cases h
                                                            exact sums_w3 m x0 x1 x2 x3 c0 c1 c3 c4 c5 c6 c7 c8 c9 c10 c12 c13 c15 c16 c17 c19 c22 c25 c28 c36 c41 c52 c54 c60 c63 c68 c85 c92 c97
                                                          · skip
                                                            cases h
                                                        · skip
                                                          cases h
                                                      · skip
                                                        cases h
                                                    · skip
                                                      refine ite_cases h (fun c77 h => ?_) (fun c77 h => ?_)
                                                      · skip
                                                        refine ite_cases h (fun c85 h => ?_) (fun c85 h => ?_)
                                                        · skip
                                                          refine ite_cases h (fun c92 h => ?_) (fun c92 h => ?_)
                                                          · skip
                                                            refine ite_cases h (fun c97 h => ?_) (fun c97 h => ?_)
                                                            · skip
                                                              cases h
                                                              exact sums_w4 m x0 x1 x2 x3 c0 c1 c3 c4 c5 c6 c7 c8 c9 c10 c12 c13 c15 c16 c17 c19 c22 c25 c28 c36 c41 c52 c54 c60 c63 c68 c77 c85 c92 c97
                                                            · skip
                                                              cases h
                                                          · skip
                                                            cases h
                                                        · skip
                                                          cases h
                                                      · skip
                                                        cases h
                                                  · skip
                                                    refine ite_cases h (fun c77 h => ?_) (fun c77 h => ?_)
                                                    · skip
                                                      refine ite_cases h (fun c85 h => ?_) (fun c85 h => ?_)
                                                      · skip
                                                        refine ite_cases h (fun c92 h => ?_) (fun c92 h => ?_)
                                                        · skip
                                                          refine ite_cases h (fun c97 h => ?_) (fun c97 h => ?_)
                                                          · skip
                                                            cases h
                                                            exact sums_w5 m x0 x1 x2 x3 c0 c1 c3 c4 c5 c6 c7 c8 c9 c10 c12 c13 c15 c16 c17 c19 c22 c25 c28 c36 c41 c52 c54 c60 c63 c77 c85 c92 c97
                                                          · skip
                                                            cases h
                                                        · skip
                                                          cases h
                                                      · skip
                                                        cases h
                                                    · skip
                                                      cases h
                                                · skip
                                                  cases h
                                              · skip
                                                cases h
                                            · skip
                                              cases h
                                          · skip
                                            cases h
                                        · skip
                                          cases h
                                    · skip
                                      refine ite_cases h (fun c36 h => ?_) (fun c36 h => ?_)
                                      · skip
                                        refine ite_cases h (fun c41 h => ?_) (fun c41 h => ?_)
                                        · skip
                                          refine ite_cases h (fun c52 h => ?_) (fun c52 h => ?_)
                                          · skip
                                            refine ite_cases h (fun c54 h => ?_) (fun c54 h => ?_)
                                            · skip
                                              refine ite_cases h (fun c60 h => ?_) (fun c60 h => ?_)
                                              · skip
                                                refine ite_cases h (fun c63 h => ?_) (fun c63 h => ?_)
                                                · skip
                                                  refine ite_cases h (fun c68 h => ?_) (fun c68 h => ?_)
                                                  · skip
                                                    refine ite_cases h (fun c85 h => ?_) (fun c85 h => ?_)
                                                    · skip
                                                      refine ite_cases h (fun c92 h => ?_) (fun c92 h => ?_)
                                                      · skip
                                                        refine ite_cases h (fun c97 h => ?_) (fun c97 h => ?_)
                                                        · skip
                                                          cases h
                                                          exact sums_w6 m x0 x1 x2 x3 c0 c1 c3 c4 c5 c6 c7 c8 c9 c10 c12 c13 c15 c16 c17 c19 c22 c25 c36 c41 c52 c54 c60 c63 c68 c85 c92 c97
                                                        · skip
                                                          cases h
                                                      · skip
                                                        cases h
                                                    · skip
                                                      cases h
                                                  · skip
                                                    refine ite_cases h (fun c77 h => ?_) (fun c77 h => ?_)
                                                    · skip
                                                      refine ite_cases h (fun c85 h => ?_) (fun c85 h => ?_)
                                                      · skip
                                                        refine ite_cases h (fun c92 h => ?_) (fun c92 h => ?_)
                                                        · skip
                                                          refine ite_cases h (fun c97 h => ?_) (fun c97 h => ?_)
                                                          · skip
                                                            cases h
                                                            exact sums_w7 m x0 x1 x2 x3 c0 c1 c3 c4 c5 c6 c7 c8 c9 c10 c12 c13 c15 c16 c17 c19 c22 c25 c36 c41 c52 c54 c60 c63 c68 c77 c85 c92 c97
                                                          · skip
                                                            cases h
                                                        · skip
                                                          cases h
                                                      · skip
                                                        cases h
                                                    · skip
                                                      cases h
                                                · skip
                                                  refine ite_cases h (fun c77 h => ?_) (fun c77 h => ?_)
                                                  · skip
                                                    refine ite_cases h (fun c85 h => ?_) (fun c85 h => ?_)
                                                    · skip
                                                      refine ite_cases h (fun c92 h => ?_) (fun c92 h => ?_)
                                                      · skip
                                                        refine ite_cases h (fun c97 h => ?_) (fun c97 h => ?_)
                                                        · skip
                                                          cases h
                                                          exact sums_w8 m x0 x1 x2 x3 c0 c1 c3 c4 c5 c6 c7 c8 c9 c10 c12 c13 c15 c16 c17 c19 c22 c25 c36 c41 c52 c54 c60 c63 c77 c85 c92 c97
                                                        · skip
                                                          cases h
                                                      · skip
                                                        cases h
                                                    · skip
                                                      cases h
                                                  · skip
                                                    cases h
                                              · skip
                                                cases h
                                            · skip
                                              cases h
                                          · skip
                                            cases h
                                        · skip
                                          cases h
                                      · skip
                                        cases h
                                  · skip
                                    refine ite_cases h (fun c36 h => ?_) (fun c36 h => ?_)
                                    · skip
                                      refine ite_cases h (fun c41 h => ?_) (fun c41 h => ?_)
                                      · skip
                                        refine ite_cases h (fun c52 h => ?_) (fun c52 h => ?_)
                                        · skip
                                          refine ite_cases h (fun c54 h => ?_) (fun c54 h => ?_)
                                          · skip
                                            refine ite_cases h (fun c60 h => ?_) (fun c60 h => ?_)
                                            · skip
                                              refine ite_cases h (fun c63 h => ?_) (fun c63 h => ?_)
                                              · skip
                                                refine ite_cases h (fun c68 h => ?_) (fun c68 h => ?_)
                                                · skip
                                                  refine ite_cases h (fun c85 h => ?_) (fun c85 h => ?_)
                                                  · skip
                                                    refine ite_cases h (fun c92 h => ?_) (fun c92 h => ?_)
                                                    · skip
                                                      refine ite_cases h (fun c97 h => ?_) (fun c97 h => ?_)
                                                      · skip
                                                        cases h
                                                        exact sums_w9 m x0 x1 x2 x3 c0 c1 c3 c4 c5 c6 c7 c8 c9 c10 c12 c13 c15 c16 c17 c19 c22 c36 c41 c52 c54 c60 c63 c68 c85 c92 c97
                                                      · skip
                                                        cases h
                                                    · skip
                                                      cases h
                                                  · skip
                                                    cases h
                                                · skip
                                                  refine ite_cases h (fun c77 h => ?_) (fun c77 h => ?_)
                                                  · skip
                                                    refine ite_cases h (fun c85 h => ?_) (fun c85 h => ?_)
                                                    · skip
                                                      refine ite_cases h (fun c92 h => ?_) (fun c92 h => ?_)
                                                      · skip
                                                        refine ite_cases h (fun c97 h => ?_) (fun c97 h => ?_)
                                                        · skip
                                                          cases h
                                                          exact sums_w10 m x0 x1 x2 x3 c0 c1 c3 c4 c5 c6 c7 c8 c9 c10 c12 c13 c15 c16 c17 c19 c22 c36 c41 c52 c54 c60 c63 c68 c77 c85 c92 c97
                                                        · skip
                                                          cases h
                                                      · skip
                                                        cases h
                                                    · skip
                                                      cases h
                                                  · skip
                                                    cases h
                                              · skip
                                                refine ite_cases h (fun c77 h => ?_) (fun c77 h => ?_)
                                                · skip
                                                  refine ite_cases h (fun c85 h => ?_) (fun c85 h => ?_)
                                                  · skip
                                                    refine ite_cases h (fun c92 h => ?_) (fun c92 h => ?_)
                                                    · skip
                                                      refine ite_cases h (fun c97 h => ?_) (fun c97 h => ?_)
                                                      · skip
                                                        cases h
                                                        exact sums_w11 m x0 x1 x2 x3 c0 c1 c3 c4 c5 c6 c7 c8 c9 c10 c12 c13 c15 c16 c17 c19 c22 c36 c41 c52 c54 c60 c63 c77 c85 c92 c97
                                                      · skip
                                                        cases h
                                                    · skip
                                                      cases h
                                                  · skip
                                                    cases h
                                                · skip
                                                  cases h
                                            · skip
                                              cases h
                                          · skip
                                            cases h
                                        · skip
                                          cases h
                                      · skip
                                        cases h
                                    · skip
                                      cases h
                                · skip
                                  refine ite_cases h (fun c36 h => ?_) (fun c36 h => ?_)
                                  · skip
                                    refine ite_cases h (fun c41 h => ?_) (fun c41 h => ?_)
                                    · skip
                                      refine ite_cases h (fun c52 h => ?_) (fun c52 h => ?_)
                                      · skip
                                        refine ite_cases h (fun c54 h => ?_) (fun c54 h => ?_)
                                        · skip
                                          refine ite_cases h (fun c60 h => ?_) (fun c60 h => ?_)
                                          · skip
                                            refine ite_cases h (fun c63 h => ?_) (fun c63 h => ?_)
                                            · skip
                                              refine ite_cases h (fun c68 h => ?_) (fun c68 h => ?_)
                                              · skip
                                                refine ite_cases h (fun c85 h => ?_) (fun c85 h => ?_)
                                                · skip
                                                  refine ite_cases h (fun c92 h => ?_) (fun c92 h => ?_)
                                                  · skip
                                                    refine ite_cases h (fun c97 h => ?_) (fun c97 h => ?_)
                                                    · skip
                                                      cases h
                                                      exact sums_w12 m x0 x1 x2 x3 c0 c1 c3 c4 c5 c6 c7 c8 c9 c10 c12 c13 c15 c16 c17 c19 c36 c41 c52 c54 c60 c63 c68 c85 c92 c97
                                                    · skip
                                                      cases h
                                                  · skip
                                                    cases h
                                                · skip
                                                  cases h
                                              · skip
                                                refine ite_cases h (fun c77 h => ?_) (fun c77 h => ?_)
                                                · skip
                                                  refine ite_cases h (fun c85 h => ?_) (fun c85 h => ?_)
                                                  · skip
                                                    refine ite_cases h (fun c92 h => ?_) (fun c92 h => ?_)
                                                    · skip
                                                      refine ite_cases h (fun c97 h => ?_) (fun c97 h => ?_)
                                                      · skip
                                                        cases h
                                                        exact sums_w13 m x0 x1 x2 x3 c0 c1 c3 c4 c5 c6 c7 c8 c9 c10 c12 c13 c15 c16 c17 c19 c36 c41 c52 c54 c60 c63 c68 c77 c85 c92 c97
                                                      · skip
                                                        cases h
                                                    · skip
                                                      cases h
                                                  · skip
                                                    cases h
                                                · skip
                                                  cases h
                                            · skip
                                              refine ite_cases h (fun c77 h => ?_) (fun c77 h => ?_)
                                              · skip
                                                refine ite_cases h (fun c85 h => ?_) (fun c85 h => ?_)
                                                · skip
                                                  refine ite_cases h (fun c92 h => ?_) (fun c92 h => ?_)
                                                  · skip
                                                    refine ite_cases h (fun c97 h => ?_) (fun c97 h => ?_)
                                                    · skip
                                                      cases h
                                                      exact sums_w14 m x0 x1 x2 x3 c0 c1 c3 c4 c5 c6 c7 c8 c9 c10 c12 c13 c15 c16 c17 c19 c36 c41 c52 c54 c60 c63 c77 c85 c92 c97
                                                    · skip
                                                      cases h
                                                  · skip
                                                    cases h
                                                · skip
                                                  cases h
                                              · skip
                                                cases h
                                          · skip
                                            cases h
                                        · skip
                                          cases h
                                      · skip
                                        cases h
                                    · skip
                                      cases h
                                  · skip
                                    cases h
                              · skip
                                cases h
                            · skip
                              cases h
                          · skip
                            refine ite_cases h (fun c16 h => ?_) (fun c16 h => ?_)
                            · skip
                              refine ite_cases h (fun c18 h => ?_) (fun c18 h => ?_)
                              · skip
                                refine ite_cases h (fun c21 h => ?_) (fun c21 h => ?_)
                                · skip
                                  refine ite_cases h (fun c24 h => ?_) (fun c24 h => ?_)
                                  · skip
                                    refine ite_cases h (fun c27 h => ?_) (fun c27 h => ?_)
                                    · skip
                                      refine ite_cases h (fun c31 h => ?_) (fun c31 h => ?_)
                                      · skip
                                        cases h
                                      · skip
                                        refine ite_cases h (fun c35 h => ?_) (fun c35 h => ?_)
                                        · skip
                                          refine ite_cases h (fun c40 h => ?_) (fun c40 h => ?_)
                                          · skip
                                            refine ite_cases h (fun c51 h => ?_) (fun c51 h => ?_)
                                            · skip
                                              refine ite_cases h (fun c53 h => ?_) (fun c53 h => ?_)
                                              · skip
                                                refine ite_cases h (fun c59 h => ?_) (fun c59 h => ?_)
                                                · skip
                                                  refine ite_cases h (fun c62 h => ?_) (fun c62 h => ?_)
                                                  · skip
                                                    refine ite_cases h (fun c67 h => ?_) (fun c67 h => ?_)
                                                    · skip
                                                      refine ite_cases h (fun c84 h => ?_) (fun c84 h => ?_)
                                                      · skip
                                                        refine ite_cases h (fun c91 h => ?_) (fun c91 h => ?_)
                                                        · skip
                                                          refine ite_cases h (fun c96 h => ?_) (fun c96 h => ?_)
                                                          · skip
                                                            cases h
                                                            exact sums_w15 m x0 x1 x2 x3 c0 c1 c3 c4 c5 c6 c7 c8 c9 c10 c12 c13 c15 c16 c18 c21 c24 c27 c31 c35 c40 c51 c53 c59 c62 c67 c84 c91 c96
                                                          · skip
                                                            cases h
                                                        · skip
                                                          cases h
                                                      · skip
                                                        cases h
                                                    · skip
                                                      refine ite_cases h (fun c76 h => ?_) (fun c76 h => ?_)
                                                      · skip
                                                        refine ite_cases h (fun c84 h => ?_) (fun c84 h => ?_)
                                                        · skip
                                                          refine ite_cases h (fun c91 h => ?_) (fun c91 h => ?_)
                                                          · skip
                                                            refine ite_cases h (fun c96 h => ?_) (fun c96 h => ?_)
                                                            · skip
                                                              cases h
                                                              exact sums_w16 m x0 x1 x2 x3 c0 c1 c3 c4 c5 c6 c7 c8 c9 c10 c12 c13 c15 c16 c18 c21 c24 c27 c31 c35 c40 c51 c53 c59 c62 c67 c76 c84 c91 c96
                                                            · skip
                                                              cases h
                                                          · skip
                                                            cases h
                                                        · skip
                                                          cases h
                                                      · skip
                                                        cases h
                                                  · skip
                                                    refine ite_cases h (fun c76 h => ?_) (fun c76 h => ?_)
                                                    · skip
                                                      refine ite_cases h (fun c84 h => ?_) (fun c84 h => ?_)
                                                      · skip
                                                        refine ite_cases h (fun c91 h => ?_) (fun c91 h => ?_)
                                                        · skip
                                                          refine ite_cases h (fun c96 h => ?_) (fun c96 h => ?_)
                                                          · skip
                                                            cases h
                                                            exact sums_w17 m x0 x1 x2 x3 c0 c1 c3 c4 c5 c6 c7 c8 c9 c10 c12 c13 c15 c16 c18 c21 c24 c27 c31 c35 c40 c51 c53 c59 c62 c76 c84 c91 c96
                                                          · skip
                                                            cases h
                                                        · skip
                                                          cases h
                                                      · skip
                                                        cases h
                                                    · skip
                                                      cases h
                                                · skip
                                                  cases h
                                              · skip
                                                cases h
                                            · skip
                                              cases h
                                          · skip
                                            cases h
                                        · skip
                                          cases h
                                    · skip
                                      refine ite_cases h (fun c35 h => ?_) (fun c35 h => ?_)
                                      · skip
                                        refine ite_cases h (fun c40 h => ?_) (fun c40 h => ?_)
                                        · skip
                                          refine ite_cases h (fun c51 h => ?_) (fun c51 h => ?_)
                                          · skip
                                            refine ite_cases h (fun c53 h => ?_) (fun c53 h => ?_)
                                            · skip
                                              refine ite_cases h (fun c59 h => ?_) (fun c59 h => ?_)
                                              · skip
                                                refine ite_cases h (fun c62 h => ?_) (fun c62 h => ?_)
                                                · skip
                                                  refine ite_cases h (fun c67 h => ?_) (fun c67 h => ?_)
                                                  · skip
                                                    refine ite_cases h (fun c84 h => ?_) (fun c84 h => ?_)
                                                    · skip
                                                      refine ite_cases h (fun c91 h => ?_) (fun c91 h => ?_)
                                                      · skip
                                                        refine ite_cases h (fun c96 h => ?_) (fun c96 h => ?_)
                                                        · skip
                                                          cases h
                                                          exact sums_w18 m x0 x1 x2 x3 c0 c1 c3 c4 c5 c6 c7 c8 c9 c10 c12 c13 c15 c16 c18 c21 c24 c27 c35 c40 c51 c53 c59 c62 c67 c84 c91 c96
                                                        · skip
                                                          cases h
                                                      · skip
                                                        cases h
                                                    · skip
                                                      cases h
                                                  · skip
                                                    refine ite_cases h (fun c76 h => ?_) (fun c76 h => ?_)
                                                    · skip
                                                      refine ite_cases h (fun c84 h => ?_) (fun c84 h => ?_)
                                                      · skip
                                                        refine ite_cases h (fun c91 h => ?_) (fun c91 h => ?_)
                                                        · skip
                                                          refine ite_cases h (fun c96 h => ?_) (fun c96 h => ?_)
                                                          · skip
                                                            cases h
                                                            exact sums_w19 m x0 x1 x2 x3 c0 c1 c3 c4 c5 c6 c7 c8 c9 c10 c12 c13 c15 c16 c18 c21 c24 c27 c35 c40 c51 c53 c59 c62 c67 c76 c84 c91 c96
                                                          · skip
                                                            cases h
                                                        · skip
                                                          cases h
                                                      · skip
                                                        cases h
                                                    · skip
                                                      cases h
                                                · skip
                                                  refine ite_cases h (fun c76 h => ?_) (fun c76 h => ?_)
                                                  · skip
                                                    refine ite_cases h (fun c84 h => ?_) (fun c84 h => ?_)
                                                    · skip
                                                      refine ite_cases h (fun c91 h => ?_) (fun c91 h => ?_)
                                                      · skip
                                                        refine ite_cases h (fun c96 h => ?_) (fun c96 h => ?_)
                                                        · skip
                                                          cases h
                                                          exact sums_w20 m x0 x1 x2 x3 c0 c1 c3 c4 c5 c6 c7 c8 c9 c10 c12 c13 c15 c16 c18 c21 c24 c27 c35 c40 c51 c53 c59 c62 c76 c84 c91 c96
                                                        · skip
                                                          cases h
                                                      · skip
                                                        cases h
                                                    · skip
                                                      cases h
                                                  · skip
                                                    cases h
                                              · skip
                                                cases h
                                            · skip
                                              cases h
                                          · skip
                                            cases h
                                        · skip
                                          cases h
                                      · skip
                                        cases h
                                  · skip
                                    refine ite_cases h (fun c35 h => ?_) (fun c35 h => ?_)
                                    · skip
                                      refine ite_cases h (fun c40 h => ?_) (fun c40 h => ?_)
                                      · skip
                                        refine ite_cases h (fun c51 h => ?_) (fun c51 h => ?_)
                                        · skip
                                          refine ite_cases h (fun c53 h => ?_) (fun c53 h => ?_)
                                          · skip
                                            refine ite_cases h (fun c59 h => ?_) (fun c59 h => ?_)
                                            · skip
                                              refine ite_cases h (fun c62 h => ?_) (fun c62 h => ?_)
                                              · skip
                                                refine ite_cases h (fun c67 h => ?_) (fun c67 h => ?_)
                                                · skip
                                                  refine ite_cases h (fun c84 h => ?_) (fun c84 h => ?_)
                                                  · skip
                                                    refine ite_cases h (fun c91 h => ?_) (fun c91 h => ?_)
                                                    · skip
                                                      refine ite_cases h (fun c96 h => ?_) (fun c96 h => ?_)
                                                      · skip
                                                        cases h
                                                        exact sums_w21 m x0 x1 x2 x3 c0 c1 c3 c4 c5 c6 c7 c8 c9 c10 c12 c13 c15 c16 c18 c21 c24 c35 c40 c51 c53 c59 c62 c67 c84 c91 c96
                                                      · skip
                                                        cases h
                                                    · skip
                                                      cases h
                                                  · skip
                                                    cases h
                                                · skip
                                                  refine ite_cases h (fun c76 h => ?_) (fun c76 h => ?_)
                                                  · skip
                                                    refine ite_cases h (fun c84 h => ?_) (fun c84 h => ?_)
                                                    · skip
                                                      refine ite_cases h (fun c91 h => ?_) (fun c91 h => ?_)
                                                      · skip
                                                        refine ite_cases h (fun c96 h => ?_) (fun c96 h => ?_)
                                                        · skip
                                                          cases h
                                                          exact sums_w22 m x0 x1 x2 x3 c0 c1 c3 c4 c5 c6 c7 c8 c9 c10 c12 c13 c15 c16 c18 c21 c24 c35 c40 c51 c53 c59 c62 c67 c76 c84 c91 c96
                                                        · skip
                                                          cases h
                                                      · skip
                                                        cases h
                                                    · skip
                                                      cases h
                                                  · skip
                                                    cases h
                                              · skip
                                                refine ite_cases h (fun c76 h => ?_) (fun c76 h => ?_)
                                                · skip
                                                  refine ite_cases h (fun c84 h => ?_) (fun c84 h => ?_)
                                                  · skip
                                                    refine ite_cases h (fun c91 h => ?_) (fun c91 h => ?_)
                                                    · skip
                                                      refine ite_cases h (fun c96 h => ?_) (fun c96 h => ?_)
                                                      · skip
                                                        cases h
                                                        exact sums_w23 m x0 x1 x2 x3 c0 c1 c3 c4 c5 c6 c7 c8 c9 c10 c12 c13 c15 c16 c18 c21 c24 c35 c40 c51 c53 c59 c62 c76 c84 c91 c96
                                                      · skip
                                                        cases h
                                                    · skip
                                                      cases h
                                                  · skip
                                                    cases h
                                                · skip
                                                  cases h
                                            · skip
                                              cases h
                                          · skip
                                            cases h
                                        · skip
                                          cases h
                                      · skip
                                        cases h
                                    · skip
                                      cases h
                                · skip
                                  refine ite_cases h (fun c35 h => ?_) (fun c35 h => ?_)
                                  · skip
                                    refine ite_cases h (fun c40 h => ?_) (fun c40 h => ?_)
                                    · skip
                                      refine ite_cases h (fun c51 h => ?_) (fun c51 h => ?_)
                                      · skip
                                        refine ite_cases h (fun c53 h => ?_) (fun c53 h => ?_)
                                        · skip
                                          refine ite_cases h (fun c59 h => ?_) (fun c59 h => ?_)
                                          · skip
                                            refine ite_cases h (fun c62 h => ?_) (fun c62 h => ?_)
                                            · skip
                                              refine ite_cases h (fun c67 h => ?_) (fun c67 h => ?_)
                                              · skip
                                                refine ite_cases h (fun c84 h => ?_) (fun c84 h => ?_)
                                                · skip
                                                  refine ite_cases h (fun c91 h => ?_) (fun c91 h => ?_)
                                                  · skip
                                                    refine ite_cases h (fun c96 h => ?_) (fun c96 h => ?_)
                                                    · skip
                                                      cases h
                                                      exact sums_w24 m x0 x1 x2 x3 c0 c1 c3 c4 c5 c6 c7 c8 c9 c10 c12 c13 c15 c16 c18 c21 c35 c40 c51 c53 c59 c62 c67 c84 c91 c96
                                                    · skip
                                                      cases h
                                                  · skip
                                                    cases h
                                                · skip
                                                  cases h
                                              · skip
                                                refine ite_cases h (fun c76 h => ?_) (fun c76 h => ?_)
                                                · skip
                                                  refine ite_cases h (fun c84 h => ?_) (fun c84 h => ?_)
                                                  · skip
                                                    refine ite_cases h (fun c91 h => ?_) (fun c91 h => ?_)
                                                    · skip
                                                      refine ite_cases h (fun c96 h => ?_) (fun c96 h => ?_)
                                                      · skip
                                                        cases h
                                                        exact sums_w25 m x0 x1 x2 x3 c0 c1 c3 c4 c5 c6 c7 c8 c9 c10 c12 c13 c15 c16 c18 c21 c35 c40 c51 c53 c59 c62 c67 c76 c84 c91 c96
                                                      · skip
                                                        cases h
                                                    · skip
                                                      cases h
                                                  · skip
                                                    cases h
                                                · skip
                                                  cases h
                                            · skip
                                              refine ite_cases h (fun c76 h => ?_) (fun c76 h => ?_)
                                              · skip
                                                refine ite_cases h (fun c84 h => ?_) (fun c84 h => ?_)
                                                · skip
                                                  refine ite_cases h (fun c91 h => ?_) (fun c91 h => ?_)
                                                  · skip
                                                    refine ite_cases h (fun c96 h => ?_) (fun c96 h => ?_)
                                                    · skip
                                                      cases h
                                                      exact sums_w26 m x0 x1 x2 x3 c0 c1 c3 c4 c5 c6 c7 c8 c9 c10 c12 c13 c15 c16 c18 c21 c35 c40 c51 c53 c59 c62 c76 c84 c91 c96
                                                    · skip
                                                      cases h
                                                  · skip
                                                    cases h
                                                · skip
                                                  cases h
                                              · skip
                                                cases h
                                          · skip
                                            cases h
                                        · skip
                                          cases h
                                      · skip
                                        cases h
                                    · skip
                                      cases h
                                  · skip
                                    cases h
                              · skip
                                refine ite_cases h (fun c35 h => ?_) (fun c35 h => ?_)
                                · skip
                                  refine ite_cases h (fun c40 h => ?_) (fun c40 h => ?_)
                                  · skip
                                    refine ite_cases h (fun c51 h => ?_) (fun c51 h => ?_)
                                    · skip
                                      refine ite_cases h (fun c53 h => ?_) (fun c53 h => ?_)
                                      · skip
                                        refine ite_cases h (fun c59 h => ?_) (fun c59 h => ?_)
                                        · skip
                                          refine ite_cases h (fun c62 h => ?_) (fun c62 h => ?_)
                                          · skip
                                            refine ite_cases h (fun c67 h => ?_) (fun c67 h => ?_)
                                            · skip
                                              refine ite_cases h (fun c84 h => ?_) (fun c84 h => ?_)
                                              · skip
                                                refine ite_cases h (fun c91 h => ?_) (fun c91 h => ?_)
                                                · skip
                                                  refine ite_cases h (fun c96 h => ?_) (fun c96 h => ?_)
                                                  · skip
                                                    cases h
                                                    exact sums_w27 m x0 x1 x2 x3 c0 c1 c3 c4 c5 c6 c7 c8 c9 c10 c12 c13 c15 c16 c18 c35 c40 c51 c53 c59 c62 c67 c84 c91 c96
                                                  · skip
                                                    cases h
                                                · skip
                                                  cases h
                                              · skip
                                                cases h
                                            · skip
                                              refine ite_cases h (fun c76 h => ?_) (fun c76 h => ?_)
                                              · skip
                                                refine ite_cases h (fun c84 h => ?_) (fun c84 h => ?_)
                                                · skip
                                                  refine ite_cases h (fun c91 h => ?_) (fun c91 h => ?_)
                                                  · skip
                                                    refine ite_cases h (fun c96 h => ?_) (fun c96 h => ?_)
                                                    · skip
                                                      cases h
                                                      exact sums_w28 m x0 x1 x2 x3 c0 c1 c3 c4 c5 c6 c7 c8 c9 c10 c12 c13 c15 c16 c18 c35 c40 c51 c53 c59 c62 c67 c76 c84 c91 c96
                                                    · skip
                                                      cases h
                                                  · skip
                                                    cases h
                                                · skip
                                                  cases h
                                              · skip
                                                cases h
                                          · skip
                                            refine ite_cases h (fun c76 h => ?_) (fun c76 h => ?_)
                                            · skip
                                              refine ite_cases h (fun c84 h => ?_) (fun c84 h => ?_)
                                              · skip
                                                refine ite_cases h (fun c91 h => ?_) (fun c91 h => ?_)
                                                · skip
                                                  refine ite_cases h (fun c96 h => ?_) (fun c96 h => ?_)
                                                  · skip
                                                    cases h
                                                    exact sums_w29 m x0 x1 x2 x3 c0 c1 c3 c4 c5 c6 c7 c8 c9 c10 c12 c13 c15 c16 c18 c35 c40 c51 c53 c59 c62 c76 c84 c91 c96
                                                  · skip
                                                    cases h
                                                · skip
                                                  cases h
                                              · skip
                                                cases h
                                            · skip
                                              cases h
                                        · skip
                                          cases h
                                      · skip
                                        cases h
                                    · skip
                                      cases h
                                  · skip
                                    cases h
                                · skip
                                  cases h
                            · skip
                              cases h
                        · skip
                          cases h
                      · skip
                        cases h
                    · skip
                      cases h
                  · skip
                    cases h
                · skip
                  refine ite_cases h (fun c9 h => ?_) (fun c9 h => ?_)
                  · skip
                    refine ite_cases h (fun c10 h => ?_) (fun c10 h => ?_)
                    · skip
                      refine ite_cases h (fun c12 h => ?_) (fun c12 h => ?_)
                      · skip
                        refine ite_cases h (fun c13 h => ?_) (fun c13 h => ?_)
                        · skip
                          refine ite_cases h (fun c15 h => ?_) (fun c15 h => ?_)
                          · skip
                            refine ite_cases h (fun c16 h => ?_) (fun c16 h => ?_)
                            · skip
                              refine ite_cases h (fun c17 h => ?_) (fun c17 h => ?_)
                              · skip
                                refine ite_cases h (fun c19 h => ?_) (fun c19 h => ?_)
                                · skip
                                  refine ite_cases h (fun c22 h => ?_) (fun c22 h => ?_)
                                  · skip
                                    refine ite_cases h (fun c25 h => ?_) (fun c25 h => ?_)
                                    · skip
                                      refine ite_cases h (fun c28 h => ?_) (fun c28 h => ?_)
                                      · skip
                                        refine ite_cases h (fun c32 h => ?_) (fun c32 h => ?_)
                                        · skip
                                          cases h
                                        · skip
                                          refine ite_cases h (fun c36 h => ?_) (fun c36 h => ?_)
                                          · skip
                                            refine ite_cases h (fun c41 h => ?_) (fun c41 h => ?_)
                                            · skip
                                              refine ite_cases h (fun c48 h => ?_) (fun c48 h => ?_)
                                              · skip
                                                refine ite_cases h (fun c52 h => ?_) (fun c52 h => ?_)
                                                · skip
                                                  refine ite_cases h (fun c54 h => ?_) (fun c54 h => ?_)
                                                  · skip
                                                    refine ite_cases h (fun c60 h => ?_) (fun c60 h => ?_)
                                                    · skip
                                                      refine ite_cases h (fun c63 h => ?_) (fun c63 h => ?_)
                                                      · skip
                                                        refine ite_cases h (fun c68 h => ?_) (fun c68 h => ?_)
                                                        · skip
                                                          refine ite_cases h (fun c85 h => ?_) (fun c85 h => ?_)
                                                          · skip
                                                            refine ite_cases h (fun c92 h => ?_) (fun c92 h => ?_)
                                                            · skip
                                                              refine ite_cases h (fun c97 h => ?_) (fun c97 h => ?_)
                                                              · skip
                                                                cases h
                                                                exact sums_w30 m x0 x1 x2 x3 c0 c1 c3 c4 c5 c6 c7 c8 c9 c10 c12 c13 c15 c16 c17 c19 c22 c25 c28 c32 c36 c41 c48 c52 c54 c60 c63 c68 c85 c92 c97
                                                              · skip
                                                                cases h
                                                            · skip
                                                              cases h
                                                          · skip
                                                            cases h
                                                        · skip
                                                          refine ite_cases h (fun c77 h => ?_) (fun c77 h => ?_)
                                                          · skip
                                                            refine ite_cases h (fun c85 h => ?_) (fun c85 h => ?_)
                                                            · skip
                                                              refine ite_cases h (fun c92 h => ?_) (fun c92 h => ?_)
                                                              · skip
                                                                refine ite_cases h (fun c97 h => ?_) (fun c97 h => ?_)
                                                                · skip
                                                                  cases h
                                                                  exact sums_w31 m x0 x1 x2 x3 c0 c1 c3 c4 c5 c6 c7 c8 c9 c10 c12 c13 c15 c16 c17 c19 c22 c25 c28 c32 c36 c41 c48 c52 c54 c60 c63 c68 c77 c85 c92 c97
                                                                · skip
                                                                  cases h
                                                              · skip
                                                                cases h
                                                            · skip
                                                              cases h
                                                          · skip
                                                            cases h
                                                      · skip
                                                        refine ite_cases h (fun c77 h => ?_) (fun c77 h => ?_)
                                                        · skip
                                                          refine ite_cases h (fun c85 h => ?_) (fun c85 h => ?_)
                                                          · skip
                                                            refine ite_cases h (fun c92 h => ?_) (fun c92 h => ?_)
                                                            · skip
                                                              refine ite_cases h (fun c97 h => ?_) (fun c97 h => ?_)
                                                              · skip
                                                                cases h
                                                                exact sums_w32 m x0 x1 x2 x3 c0 c1 c3 c4 c5 c6 c7 c8 c9 c10 c12 c13 c15 c16 c17 c19 c22 c25 c28 c32 c36 c41 c48 c52 c54 c60 c63 c77 c85 c92 c97
                                                              · skip
                                                                cases h
                                                            · skip
                                                              cases h
                                                          · skip
                                                            cases h
                                                        · skip
                                                          cases h
                                                    · skip
                                                      cases h
                                                  · skip
                                                    cases h
                                                · skip
                                                  cases h
                                              · skip
                                                cases h
                                            · skip
                                              cases h
                                          · skip
                                            cases h
                                      · skip
                                        refine ite_cases h (fun c36 h => ?_) (fun c36 h => ?_)
                                        · skip
                                          refine ite_cases h (fun c41 h => ?_) (fun c41 h => ?_)
                                          · skip
                                            refine ite_cases h (fun c48 h => ?_) (fun c48 h => ?_)
                                            · skip
                                              refine ite_cases h (fun c52 h => ?_) (fun c52 h => ?_)
                                              · skip
                                                refine ite_cases h (fun c54 h => ?_) (fun c54 h => ?_)
                                                · skip
                                                  refine ite_cases h (fun c60 h => ?_) (fun c60 h => ?_)
                                                  · skip
                                                    refine ite_cases h (fun c63 h => ?_) (fun c63 h => ?_)
                                                    · skip
                                                      refine ite_cases h (fun c68 h => ?_) (fun c68 h => ?_)
                                                      · skip
                                                        refine ite_cases h (fun c85 h => ?_) (fun c85 h => ?_)
                                                        · skip
                                                          refine ite_cases h (fun c92 h => ?_) (fun c92 h => ?_)
                                                          · skip
                                                            refine ite_cases h (fun c97 h => ?_) (fun c97 h => ?_)
                                                            · skip
                                                              cases h
                                                              exact sums_w33 m x0 x1 x2 x3 c0 c1 c3 c4 c5 c6 c7 c8 c9 c10 c12 c13 c15 c16 c17 c19 c22 c25 c28 c36 c41 c48 c52 c54 c60 c63 c68 c85 c92 c97
                                                            · skip
                                                              cases h
                                                          · skip
                                                            cases h
                                                        · skip
                                                          cases h
                                                      · skip
                                                        refine ite_cases h (fun c77 h => ?_) (fun c77 h => ?_)
                                                        · skip
                                                          refine ite_cases h (fun c85 h => ?_) (fun c85 h => ?_)
                                                          · skip
                                                            refine ite_cases h (fun c92 h => ?_) (fun c92 h => ?_)
                                                            · skip
                                                              refine ite_cases h (fun c97 h => ?_) (fun c97 h => ?_)
                                                              · skip
                                                                cases h
                                                                exact sums_w34 m x0 x1 x2 x3 c0 c1 c3 c4 c5 c6 c7 c8 c9 c10 c12 c13 c15 c16 c17 c19 c22 c25 c28 c36 c41 c48 c52 c54 c60 c63 c68 c77 c85 c92 c97
                                                              · skip
                                                                cases h
                                                            · skip
                                                              cases h
                                                          · skip
                                                            cases h
                                                        · skip
                                                          cases h
                                                    · skip
                                                      refine ite_cases h (fun c77 h => ?_) (fun c77 h => ?_)
                                                      · skip
                                                        refine ite_cases h (fun c85 h => ?_) (fun c85 h => ?_)
                                                        · skip
                                                          refine ite_cases h (fun c92 h => ?_) (fun c92 h => ?_)
                                                          · skip
                                                            refine ite_cases h (fun c97 h => ?_) (fun c97 h => ?_)
                                                            · skip
                                                              cases h
                                                              exact sums_w35 m x0 x1 x2 x3 c0 c1 c3 c4 c5 c6 c7 c8 c9 c10 c12 c13 c15 c16 c17 c19 c22 c25 c28 c36 c41 c48 c52 c54 c60 c63 c77 c85 c92 c97
                                                            · skip
                                                              cases h
                                                          · skip
                                                            cases h
                                                        · skip
                                                          cases h
                                                      · skip
                                                        cases h
                                                  · skip
                                                    cases h
                                                · skip
                                                  cases h
                                              · skip
                                                cases h
                                            · skip
                                              cases h
                                          · skip
                                            cases h
                                        · skip
                                          cases h
                                    · skip
                                      refine ite_cases h (fun c36 h => ?_) (fun c36 h => ?_)
                                      · skip
                                        refine ite_cases h (fun c41 h => ?_) (fun c41 h => ?_)
                                        · skip
                                          refine ite_cases h (fun c48 h => ?_) (fun c48 h => ?_)
                                          · skip
                                            refine ite_cases h (fun c52 h => ?_) (fun c52 h => ?_)
                                            · skip
                                              refine ite_cases h (fun c54 h => ?_) (fun c54 h => ?_)
                                              · skip
                                                refine ite_cases h (fun c60 h => ?_) (fun c60 h => ?_)
                                                · skip
                                                  refine ite_cases h (fun c63 h => ?_) (fun c63 h => ?_)
                                                  · skip
                                                    refine ite_cases h (fun c68 h => ?_) (fun c68 h => ?_)
                                                    · skip
                                                      refine ite_cases h (fun c85 h => ?_) (fun c85 h => ?_)
                                                      · skip
                                                        refine ite_cases h (fun c92 h => ?_) (fun c92 h => ?_)
                                                        · skip
                                                          refine ite_cases h (fun c97 h => ?_) (fun c97 h => ?_)
                                                          · skip
                                                            cases h
                                                            exact sums_w36 m x0 x1 x2 x3 c0 c1 c3 c4 c5 c6 c7 c8 c9 c10 c12 c13 c15 c16 c17 c19 c22 c25 c36 c41 c48 c52 c54 c60 c63 c68 c85 c92 c97
                                                          · skip
                                                            cases h
                                                        · skip
                                                          cases h
                                                      · skip
                                                        cases h
                                                    · skip
                                                      refine ite_cases h (fun c77 h => ?_) (fun c77 h => ?_)
                                                      · skip
                                                        refine ite_cases h (fun c85 h => ?_) (fun c85 h => ?_)
                                                        · skip
                                                          refine ite_cases h (fun c92 h => ?_) (fun c92 h => ?_)
                                                          · skip
                                                            refine ite_cases h (fun c97 h => ?_) (fun c97 h => ?_)
                                                            · skip
                                                              cases h
                                                              exact sums_w37 m x0 x1 x2 x3 c0 c1 c3 c4 c5 c6 c7 c8 c9 c10 c12 c13 c15 c16 c17 c19 c22 c25 c36 c41 c48 c52 c54 c60 c63 c68 c77 c85 c92 c97
                                                            · skip
                                                              cases h
                                                          · skip
                                                            cases h
                                                        · skip
                                                          cases h
                                                      · skip
                                                        cases h
                                                  · skip
                                                    refine ite_cases h (fun c77 h => ?_) (fun c77 h => ?_)
                                                    · skip
                                                      refine ite_cases h (fun c85 h => ?_) (fun c85 h => ?_)
                                                      · skip
                                                        refine ite_cases h (fun c92 h => ?_) (fun c92 h => ?_)
                                                        · skip
                                                          refine ite_cases h (fun c97 h => ?_) (fun c97 h => ?_)
                                                          · skip
                                                            cases h
                                                            exact sums_w38 m x0 x1 x2 x3 c0 c1 c3 c4 c5 c6 c7 c8 c9 c10 c12 c13 c15 c16 c17 c19 c22 c25 c36 c41 c48 c52 c54 c60 c63 c77 c85 c92 c97
                                                          · skip
                                                            cases h
                                                        · skip
                                                          cases h
                                                      · skip
                                                        cases h
                                                    · skip
                                                      cases h
                                                · skip
                                                  cases h
                                              · skip
                                                cases h
                                            · skip
                                              cases h
                                          · skip
                                            cases h
                                        · skip
                                          cases h
                                      · skip
                                        cases h
                                  · skip
                                    refine ite_cases h (fun c36 h => ?_) (fun c36 h => ?_)
                                    · skip
                                      refine ite_cases h (fun c41 h => ?_) (fun c41 h => ?_)
                                      · skip
                                        refine ite_cases h (fun c48 h => ?_) (fun c48 h => ?_)
                                        · skip
                                          refine ite_cases h (fun c52 h => ?_) (fun c52 h => ?_)
                                          · skip
                                            refine ite_cases h (fun c54 h => ?_) (fun c54 h => ?_)
                                            · skip
                                              refine ite_cases h (fun c60 h => ?_) (fun c60 h => ?_)
                                              · skip
                                                refine ite_cases h (fun c63 h => ?_) (fun c63 h => ?_)
                                                · skip
                                                  refine ite_cases h (fun c68 h => ?_) (fun c68 h => ?_)
                                                  · skip
                                                    refine ite_cases h (fun c85 h => ?_) (fun c85 h => ?_)
                                                    · skip
                                                      refine ite_cases h (fun c92 h => ?_) (fun c92 h => ?_)
                                                      · skip
                                                        refine ite_cases h (fun c97 h => ?_) (fun c97 h => ?_)
                                                        · skip
                                                          cases h
                                                          exact sums_w39 m x0 x1 x2 x3 c0 c1 c3 c4 c5 c6 c7 c8 c9 c10 c12 c13 c15 c16 c17 c19 c22 c36 c41 c48 c52 c54 c60 c63 c68 c85 c92 c97
                                                        · skip
                                                          cases h
                                                      · skip
                                                        cases h
                                                    · skip
                                                      cases h
                                                  · skip
                                                    refine ite_cases h (fun c77 h => ?_) (fun c77 h => ?_)
                                                    · skip
                                                      refine ite_cases h (fun c85 h => ?_) (fun c85 h => ?_)
                                                      · skip
                                                        refine ite_cases h (fun c92 h => ?_) (fun c92 h => ?_)
                                                        · skip
                                                          refine ite_cases h (fun c97 h => ?_) (fun c97 h => ?_)
                                                          · skip
                                                            cases h
                                                            exact sums_w40 m x0 x1 x2 x3 c0 c1 c3 c4 c5 c6 c7 c8 c9 c10 c12 c13 c15 c16 c17 c19 c22 c36 c41 c48 c52 c54 c60 c63 c68 c77 c85 c92 c97
                                                          · skip
                                                            cases h
                                                        · skip
                                                          cases h
                                                      · skip
                                                        cases h
                                                    · skip
                                                      cases h
                                                · skip
                                                  refine ite_cases h (fun c77 h => ?_) (fun c77 h => ?_)
                                                  · skip
                                                    refine ite_cases h (fun c85 h => ?_) (fun c85 h => ?_)
                                                    · skip
                                                      refine ite_cases h (fun c92 h => ?_) (fun c92 h => ?_)
                                                      · skip
                                                        refine ite_cases h (fun c97 h => ?_) (fun c97 h => ?_)
                                                        · skip
                                                          cases h
                                                          exact sums_w41 m x0 x1 x2 x3 c0 c1 c3 c4 c5 c6 c7 c8 c9 c10 c12 c13 c15 c16 c17 c19 c22 c36 c41 c48 c52 c54 c60 c63 c77 c85 c92 c97
                                                        · skip
                                                          cases h
                                                      · skip
                                                        cases h
                                                    · skip
                                                      cases h
                                                  · skip
                                                    cases h
                                              · skip
                                                cases h
                                            · skip
                                              cases h
                                          · skip
                                            cases h
                                        · skip
                                          cases h
                                      · skip
                                        cases h
                                    · skip
                                      cases h
                                · skip
                                  refine ite_cases h (fun c36 h => ?_) (fun c36 h => ?_)
                                  · skip
                                    refine ite_cases h (fun c41 h => ?_) (fun c41 h => ?_)
                                    · skip
                                      refine ite_cases h (fun c48 h => ?_) (fun c48 h => ?_)
                                      · skip
                                        refine ite_cases h (fun c52 h => ?_) (fun c52 h => ?_)
                                        · skip
                                          refine ite_cases h (fun c54 h => ?_) (fun c54 h => ?_)
                                          · skip
                                            refine ite_cases h (fun c60 h => ?_) (fun c60 h => ?_)
                                            · skip
                                              refine ite_cases h (fun c63 h => ?_) (fun c63 h => ?_)
                                              · skip
                                                refine ite_cases h (fun c68 h => ?_) (fun c68 h => ?_)
                                                · skip
                                                  refine ite_cases h (fun c85 h => ?_) (fun c85 h => ?_)
                                                  · skip
                                                    refine ite_cases h (fun c92 h => ?_) (fun c92 h => ?_)
                                                    · skip
                                                      refine ite_cases h (fun c97 h => ?_) (fun c97 h => ?_)
                                                      · skip
                                                        cases h
                                                        exact sums_w42 m x0 x1 x2 x3 c0 c1 c3 c4 c5 c6 c7 c8 c9 c10 c12 c13 c15 c16 c17 c19 c36 c41 c48 c52 c54 c60 c63 c68 c85 c92 c97
                                                      · skip
                                                        cases h
                                                    · skip
                                                      cases h
                                                  · skip
                                                    cases h
                                                · skip
                                                  refine ite_cases h (fun c77 h => ?_) (fun c77 h => ?_)
                                                  · skip
                                                    refine ite_cases h (fun c85 h => ?_) (fun c85 h => ?_)
                                                    · skip
                                                      refine ite_cases h (fun c92 h => ?_) (fun c92 h => ?_)
                                                      · skip
                                                        refine ite_cases h (fun c97 h => ?_) (fun c97 h => ?_)
                                                        · skip
                                                          cases h
                                                          exact sums_w43 m x0 x1 x2 x3 c0 c1 c3 c4 c5 c6 c7 c8 c9 c10 c12 c13 c15 c16 c17 c19 c36 c41 c48 c52 c54 c60 c63 c68 c77 c85 c92 c97
                                                        · skip
                                                          cases h
                                                      · skip
                                                        cases h
                                                    · skip
                                                      cases h
                                                  · skip
                                                    cases h
                                              · skip
                                                refine ite_cases h (fun c77 h => ?_) (fun c77 h => ?_)
                                                · skip
                                                  refine ite_cases h (fun c85 h => ?_) (fun c85 h => ?_)
                                                  · skip
                                                    refine ite_cases h (fun c92 h => ?_) (fun c92 h => ?_)
                                                    · skip
                                                      refine ite_cases h (fun c97 h => ?_) (fun c97 h => ?_)
                                                      · skip
                                                        cases h
                                                        exact sums_w44 m x0 x1 x2 x3 c0 c1 c3 c4 c5 c6 c7 c8 c9 c10 c12 c13 c15 c16 c17 c19 c36 c41 c48 c52 c54 c60 c63 c77 c85 c92 c97
                                                      · skip
                                                        cases h
                                                    · skip
                                                      cases h
                                                  · skip
                                                    cases h
                                                · skip
                                                  cases h
                                            · skip
                                              cases h
                                          · skip
                                            cases h
                                        · skip
                                          cases h
                                      · skip
                                        cases h
                                    · skip
                                      cases h
                                  · skip
                                    cases h
                              · skip
                                cases h
                            · skip
                              cases h
                          · skip
                            refine ite_cases h (fun c16 h => ?_) (fun c16 h => ?_)
                            · skip
                              refine ite_cases h (fun c18 h => ?_) (fun c18 h => ?_)
                              · skip
                                refine ite_cases h (fun c21 h => ?_) (fun c21 h => ?_)
                                · skip
                                  refine ite_cases h (fun c24 h => ?_) (fun c24 h => ?_)
                                  · skip
                                    refine ite_cases h (fun c27 h => ?_) (fun c27 h => ?_)
                                    · skip
                                      refine ite_cases h (fun c31 h => ?_) (fun c31 h => ?_)
                                      · skip
                                        cases h
                                      · skip
                                        refine ite_cases h (fun c35 h => ?_) (fun c35 h => ?_)
                                        · skip
                                          refine ite_cases h (fun c40 h => ?_) (fun c40 h => ?_)
                                          · skip
                                            refine ite_cases h (fun c47 h => ?_) (fun c47 h => ?_)
                                            · skip
                                              refine ite_cases h (fun c51 h => ?_) (fun c51 h => ?_)
                                              · skip
                                                refine ite_cases h (fun c53 h => ?_) (fun c53 h => ?_)
                                                · skip
                                                  refine ite_cases h (fun c59 h => ?_) (fun c59 h => ?_)
                                                  · skip
                                                    refine ite_cases h (fun c62 h => ?_) (fun c62 h => ?_)
                                                    · skip
                                                      refine ite_cases h (fun c67 h => ?_) (fun c67 h => ?_)
                                                      · skip
                                                        refine ite_cases h (fun c84 h => ?_) (fun c84 h => ?_)
                                                        · skip
                                                          refine ite_cases h (fun c91 h => ?_) (fun c91 h => ?_)
                                                          · skip
                                                            refine ite_cases h (fun c96 h => ?_) (fun c96 h => ?_)
                                                            · skip
                                                              cases h
                                                              exact sums_w45 m x0 x1 x2 x3 c0 c1 c3 c4 c5 c6 c7 c8 c9 c10 c12 c13 c15 c16 c18 c21 c24 c27 c31 c35 c40 c47 c51 c53 c59 c62 c67 c84 c91 c96
                                                            · skip
                                                              cases h
                                                          · skip
                                                            cases h
                                                        · skip
                                                          cases h
                                                      · skip
                                                        refine ite_cases h (fun c76 h => ?_) (fun c76 h => ?_)
                                                        · skip
                                                          refine ite_cases h (fun c84 h => ?_) (fun c84 h => ?_)
                                                          · skip
                                                            refine ite_cases h (fun c91 h => ?_) (fun c91 h => ?_)
                                                            · skip
                                                              refine ite_cases h (fun c96 h => ?_) (fun c96 h => ?_)
                                                              · skip
                                                                cases h
                                                                exact sums_w46 m x0 x1 x2 x3 c0 c1 c3 c4 c5 c6 c7 c8 c9 c10 c12 c13 c15 c16 c18 c21 c24 c27 c31 c35 c40 c47 c51 c53 c59 c62 c67 c76 c84 c91 c96
                                                              · skip
                                                                cases h
                                                            · skip
                                                              cases h
                                                          · skip
                                                            cases h
                                                        · skip
                                                          cases h
                                                    · skip
                                                      refine ite_cases h (fun c76 h => ?_) (fun c76 h => ?_)
                                                      · skip
                                                        refine ite_cases h (fun c84 h => ?_) (fun c84 h => ?_)
                                                        · skip
                                                          refine ite_cases h (fun c91 h => ?_) (fun c91 h => ?_)
                                                          · skip
                                                            refine ite_cases h (fun c96 h => ?_) (fun c96 h => ?_)
                                                            · skip
                                                              cases h
                                                              exact sums_w47 m x0 x1 x2 x3 c0 c1 c3 c4 c5 c6 c7 c8 c9 c10 c12 c13 c15 c16 c18 c21 c24 c27 c31 c35 c40 c47 c51 c53 c59 c62 c76 c84 c91 c96
                                                            · skip
                                                              cases h
                                                          · skip
                                                            cases h
                                                        · skip
                                                          cases h
                                                      · skip
                                                        cases h
                                                  · skip
                                                    cases h
                                                · skip
                                                  cases h
                                              · skip
                                                cases h
                                            · skip
                                              cases h
                                          · skip
                                            cases h
                                        · skip
                                          cases h
                                    · skip
                                      refine ite_cases h (fun c35 h => ?_) (fun c35 h => ?_)
                                      · skip
                                        refine ite_cases h (fun c40 h => ?_) (fun c40 h => ?_)
                                        · skip
                                          refine ite_cases h (fun c47 h => ?_) (fun c47 h => ?_)
                                          · skip
                                            refine ite_cases h (fun c51 h => ?_) (fun c51 h => ?_)
                                            · skip
                                              refine ite_cases h (fun c53 h => ?_) (fun c53 h => ?_)
                                              · skip
                                                refine ite_cases h (fun c59 h => ?_) (fun c59 h => ?_)
                                                · skip
                                                  refine ite_cases h (fun c62 h => ?_) (fun c62 h => ?_)
                                                  · skip
                                                    refine ite_cases h (fun c67 h => ?_) (fun c67 h => ?_)
                                                    · skip
                                                      refine ite_cases h (fun c84 h => ?_) (fun c84 h => ?_)
                                                      · skip
                                                        refine ite_cases h (fun c91 h => ?_) (fun c91 h => ?_)
                                                        · skip
                                                          refine ite_cases h (fun c96 h => ?_) (fun c96 h => ?_)
                                                          · skip
                                                            cases h
                                                            exact sums_w48 m x0 x1 x2 x3 c0 c1 c3 c4 c5 c6 c7 c8 c9 c10 c12 c13 c15 c16 c18 c21 c24 c27 c35 c40 c47 c51 c53 c59 c62 c67 c84 c91 c96
                                                          · skip
                                                            cases h
                                                        · skip
                                                          cases h
                                                      · skip
                                                        cases h
                                                    · skip
                                                      refine ite_cases h (fun c76 h => ?_) (fun c76 h => ?_)
                                                      · skip
                                                        refine ite_cases h (fun c84 h => ?_) (fun c84 h => ?_)
                                                        · skip
                                                          refine ite_cases h (fun c91 h => ?_) (fun c91 h => ?_)
                                                          · skip
                                                            refine ite_cases h (fun c96 h => ?_) (fun c96 h => ?_)
                                                            · skip
                                                              cases h
                                                              exact sums_w49 m x0 x1 x2 x3 c0 c1 c3 c4 c5 c6 c7 c8 c9 c10 c12 c13 c15 c16 c18 c21 c24 c27 c35 c40 c47 c51 c53 c59 c62 c67 c76 c84 c91 c96
                                                            · skip
                                                              cases h
                                                          · skip
                                                            cases h
                                                        · skip
                                                          cases h
                                                      · skip
                                                        cases h
                                                  · skip
                                                    refine ite_cases h (fun c76 h => ?_) (fun c76 h => ?_)
                                                    · skip
                                                      refine ite_cases h (fun c84 h => ?_) (fun c84 h => ?_)
                                                      · skip
                                                        refine ite_cases h (fun c91 h => ?_) (fun c91 h => ?_)
                                                        · skip
                                                          refine ite_cases h (fun c96 h => ?_) (fun c96 h => ?_)
                                                          · skip
                                                            cases h
                                                            exact sums_w50 m x0 x1 x2 x3 c0 c1 c3 c4 c5 c6 c7 c8 c9 c10 c12 c13 c15 c16 c18 c21 c24 c27 c35 c40 c47 c51 c53 c59 c62 c76 c84 c91 c96
                                                          · skip
                                                            cases h
                                                        · skip
                                                          cases h
                                                      · skip
                                                        cases h
                                                    · skip
                                                      cases h
                                                · skip
                                                  cases h
                                              · skip
                                                cases h
                                            · skip
                                              cases h
                                          · skip
                                            cases h
                                        · skip
                                          cases h
                                      · skip
                                        cases h
                                  · skip
                                    refine ite_cases h (fun c35 h => ?_) (fun c35 h => ?_)
                                    · skip
                                      refine ite_cases h (fun c40 h => ?_) (fun c40 h => ?_)
                                      · skip
                                        refine ite_cases h (fun c47 h => ?_) (fun c47 h => ?_)
                                        · skip
                                          refine ite_cases h (fun c51 h => ?_) (fun c51 h => ?_)
                                          · skip
                                            refine ite_cases h (fun c53 h => ?_) (fun c53 h => ?_)
                                            · skip
                                              refine ite_cases h (fun c59 h => ?_) (fun c59 h => ?_)
                                              · skip
                                                refine ite_cases h (fun c62 h => ?_) (fun c62 h => ?_)
                                                · skip
                                                  refine ite_cases h (fun c67 h => ?_) (fun c67 h => ?_)
                                                  · skip
                                                    refine ite_cases h (fun c84 h => ?_) (fun c84 h => ?_)
                                                    · skip
                                                      refine ite_cases h (fun c91 h => ?_) (fun c91 h => ?_)
                                                      · skip
                                                        refine ite_cases h (fun c96 h => ?_) (fun c96 h => ?_)
                                                        · skip
                                                          cases h
                                                          exact sums_w51 m x0 x1 x2 x3 c0 c1 c3 c4 c5 c6 c7 c8 c9 c10 c12 c13 c15 c16 c18 c21 c24 c35 c40 c47 c51 c53 c59 c62 c67 c84 c91 c96
                                                        · skip
                                                          cases h
                                                      · skip
                                                        cases h
                                                    · skip
                                                      cases h
                                                  · skip
                                                    refine ite_cases h (fun c76 h => ?_) (fun c76 h => ?_)
                                                    · skip
                                                      refine ite_cases h (fun c84 h => ?_) (fun c84 h => ?_)
                                                      · skip
                                                        refine ite_cases h (fun c91 h => ?_) (fun c91 h => ?_)
                                                        · skip
                                                          refine ite_cases h (fun c96 h => ?_) (fun c96 h => ?_)
                                                          · skip
                                                            cases h
                                                            exact sums_w52 m x0 x1 x2 x3 c0 c1 c3 c4 c5 c6 c7 c8 c9 c10 c12 c13 c15 c16 c18 c21 c24 c35 c40 c47 c51 c53 c59 c62 c67 c76 c84 c91 c96
                                                          · skip
                                                            cases h
                                                        · skip
                                                          cases h
                                                      · skip
                                                        cases h
                                                    · skip
                                                      cases h
                                                · skip
                                                  refine ite_cases h (fun c76 h => ?_) (fun c76 h => ?_)
                                                  · skip
                                                    refine ite_cases h (fun c84 h => ?_) (fun c84 h => ?_)
                                                    · skip
                                                      refine ite_cases h (fun c91 h => ?_) (fun c91 h => ?_)
                                                      · skip
                                                        refine ite_cases h (fun c96 h => ?_) (fun c96 h => ?_)
                                                        · skip
                                                          cases h
                                                          exact sums_w53 m x0 x1 x2 x3 c0 c1 c3 c4 c5 c6 c7 c8 c9 c10 c12 c13 c15 c16 c18 c21 c24 c35 c40 c47 c51 c53 c59 c62 c76 c84 c91 c96
                                                        · skip
                                                          cases h
                                                      · skip
                                                        cases h
                                                    · skip
                                                      cases h
                                                  · skip
                                                    cases h
                                              · skip
                                                cases h
                                            · skip
                                              cases h
                                          · skip
                                            cases h
                                        · skip
                                          cases h
                                      · skip
                                        cases h
                                    · skip
                                      cases h
                                · skip
                                  refine ite_cases h (fun c35 h => ?_) (fun c35 h => ?_)
                                  · skip
                                    refine ite_cases h (fun c40 h => ?_) (fun c40 h => ?_)
                                    · skip
                                      refine ite_cases h (fun c47 h => ?_) (fun c47 h => ?_)
                                      · skip
                                        refine ite_cases h (fun c51 h => ?_) (fun c51 h => ?_)
                                        · skip
                                          refine ite_cases h (fun c53 h => ?_) (fun c53 h => ?_)
                                          · skip
                                            refine ite_cases h (fun c59 h => ?_) (fun c59 h => ?_)
                                            · skip
                                              refine ite_cases h (fun c62 h => ?_) (fun c62 h => ?_)
                                              · skip
                                                refine ite_cases h (fun c67 h => ?_) (fun c67 h => ?_)
                                                · skip
                                                  refine ite_cases h (fun c84 h => ?_) (fun c84 h => ?_)
                                                  · skip
                                                    refine ite_cases h (fun c91 h => ?_) (fun c91 h => ?_)
                                                    · skip
                                                      refine ite_cases h (fun c96 h => ?_) (fun c96 h => ?_)
                                                      · skip
                                                        cases h
                                                        exact sums_w54 m x0 x1 x2 x3 c0 c1 c3 c4 c5 c6 c7 c8 c9 c10 c12 c13 c15 c16 c18 c21 c35 c40 c47 c51 c53 c59 c62 c67 c84 c91 c96
                                                      · skip
                                                        cases h
                                                    · skip
                                                      cases h
                                                  · skip
                                                    cases h
                                                · skip
                                                  refine ite_cases h (fun c76 h => ?_) (fun c76 h => ?_)
                                                  · skip
                                                    refine ite_cases h (fun c84 h => ?_) (fun c84 h => ?_)
                                                    · skip
                                                      refine ite_cases h (fun c91 h => ?_) (fun c91 h => ?_)
                                                      · skip
                                                        refine ite_cases h (fun c96 h => ?_) (fun c96 h => ?_)
                                                        · skip
                                                          cases h
                                                          exact sums_w55 m x0 x1 x2 x3 c0 c1 c3 c4 c5 c6 c7 c8 c9 c10 c12 c13 c15 c16 c18 c21 c35 c40 c47 c51 c53 c59 c62 c67 c76 c84 c91 c96
                                                        · skip
                                                          cases h
                                                      · skip
                                                        cases h
                                                    · skip
                                                      cases h
                                                  · skip
                                                    cases h
                                              · skip
                                                refine ite_cases h (fun c76 h => ?_) (fun c76 h => ?_)
                                                · skip
                                                  refine ite_cases h (fun c84 h => ?_) (fun c84 h => ?_)
                                                  · skip
                                                    refine ite_cases h (fun c91 h => ?_) (fun c91 h => ?_)
                                                    · skip
                                                      refine ite_cases h (fun c96 h => ?_) (fun c96 h => ?_)
                                                      · skip
                                                        cases h
                                                        exact sums_w56 m x0 x1 x2 x3 c0 c1 c3 c4 c5 c6 c7 c8 c9 c10 c12 c13 c15 c16 c18 c21 c35 c40 c47 c51 c53 c59 c62 c76 c84 c91 c96
                                                      · skip
                                                        cases h
                                                    · skip
                                                      cases h
                                                  · skip
                                                    cases h
                                                · skip
                                                  cases h
                                            · skip
                                              cases h
                                          · skip
                                            cases h
                                        · skip
                                          cases h
                                      · skip
                                        cases h
                                    · skip
                                      cases h
                                  · skip
                                    cases h
                              · skip
                                refine ite_cases h (fun c35 h => ?_) (fun c35 h => ?_)
                                · skip
                                  refine ite_cases h (fun c40 h => ?_) (fun c40 h => ?_)
                                  · skip
                                    refine ite_cases h (fun c47 h => ?_) (fun c47 h => ?_)
                                    · skip
                                      refine ite_cases h (fun c51 h => ?_) (fun c51 h => ?_)
                                      · skip
                                        refine ite_cases h (fun c53 h => ?_) (fun c53 h => ?_)
                                        · skip
                                          refine ite_cases h (fun c59 h => ?_) (fun c59 h => ?_)
                                          · skip
                                            refine ite_cases h (fun c62 h => ?_) (fun c62 h => ?_)
                                            · skip
                                              refine ite_cases h (fun c67 h => ?_) (fun c67 h => ?_)
                                              · skip
                                                refine ite_cases h (fun c84 h => ?_) (fun c84 h => ?_)
                                                · skip
                                                  refine ite_cases h (fun c91 h => ?_) (fun c91 h => ?_)
                                                  · skip
                                                    refine ite_cases h (fun c96 h => ?_) (fun c96 h => ?_)
                                                    · skip
                                                      cases h
                                                      exact sums_w57 m x0 x1 x2 x3 c0 c1 c3 c4 c5 c6 c7 c8 c9 c10 c12 c13 c15 c16 c18 c35 c40 c47 c51 c53 c59 c62 c67 c84 c91 c96
                                                    · skip
                                                      cases h
                                                  · skip
                                                    cases h
                                                · skip
                                                  cases h
                                              · skip
                                                refine ite_cases h (fun c76 h => ?_) (fun c76 h => ?_)
                                                · skip
                                                  refine ite_cases h (fun c84 h => ?_) (fun c84 h => ?_)
                                                  · skip
                                                    refine ite_cases h (fun c91 h => ?_) (fun c91 h => ?_)
                                                    · skip
                                                      refine ite_cases h (fun c96 h => ?_) (fun c96 h => ?_)
                                                      · skip
                                                        cases h
                                                        exact sums_w58 m x0 x1 x2 x3 c0 c1 c3 c4 c5 c6 c7 c8 c9 c10 c12 c13 c15 c16 c18 c35 c40 c47 c51 c53 c59 c62 c67 c76 c84 c91 c96
                                                      · skip
                                                        cases h
                                                    · skip
                                                      cases h
                                                  · skip
                                                    cases h
                                                · skip
                                                  cases h
                                            · skip
                                              refine ite_cases h (fun c76 h => ?_) (fun c76 h => ?_)
                                              · skip
                                                refine ite_cases h (fun c84 h => ?_) (fun c84 h => ?_)
                                                · skip
                                                  refine ite_cases h (fun c91 h => ?_) (fun c91 h => ?_)
                                                  · skip
                                                    refine ite_cases h (fun c96 h => ?_) (fun c96 h => ?_)
                                                    · skip
                                                      cases h
                                                      exact sums_w59 m x0 x1 x2 x3 c0 c1 c3 c4 c5 c6 c7 c8 c9 c10 c12 c13 c15 c16 c18 c35 c40 c47 c51 c53 c59 c62 c76 c84 c91 c96
                                                    · skip
                                                      cases h
                                                  · skip
                                                    cases h
                                                · skip
                                                  cases h
                                              · skip
                                                cases h
                                          · skip
                                            cases h
                                        · skip
                                          cases h
                                      · skip
                                        cases h
                                    · skip
                                      cases h
                                  · skip
                                    cases h
                                · skip
                                  cases h
                            · skip
                              cases h
                        · skip
                          cases h
                      · skip
                        cases h
                    · skip
                      cases h
                  · skip
                    cases h
              · skip
                cases h
            · skip
              cases h
          · skip
            cases h
        · skip
          cases h
      · skip
        cases h
    · skip
      cases h
  · skip
    cases h
theorem sums_at (x0 : List Int) (x1 : Int) (x2 : Int) (x3 : Int) (h : ∃ m q, sums m x0 x1 x2 x3 = some q) : ∃ g B', CallAt Try.prog 4 g ∧ (g [(.d (.sl (.int .i64) x0)), (.d (.int .i64 x1)), (.d (.int .i64 x2)), (.d (.int .i64 x3))] []).run = some (.d (.bool true), B') := by
  obtain ⟨m, q, h⟩ := h
  exact ⟨_, _, evCall_atH mixed kinds hds S9 S9_ok (m + 25) 4, sums_ok m x0 x1 x2 x3 q h⟩

end Go.Proofs.Ytkppbflmlpabjaa.Dec
namespace Go.Proofs.Ytkppbflmlpabjaa.Dec
open Go.Ev
set_option linter.unusedVariables false
set_option linter.unusedSimpArgs false
set_option maxRecDepth 100000
theorem wrap_cases (s : Int) (h1 : -18446744073709551616 ≤ s) (h2 : s ≤ 18446744073709551614) :
    (-9223372036854775808 ≤ s ∧ s ≤ 9223372036854775807 ∧ IntKind.wrap .i64 s = s) ∨ (s > 9223372036854775807 ∧ IntKind.wrap .i64 s = s - 18446744073709551616) ∨ (s < -9223372036854775808 ∧ IntKind.wrap .i64 s = s + 18446744073709551616) := by
  by_cases a : s > 9223372036854775807
  · right; left
    refine ⟨a, ?_⟩
    rw [← wrap_id (n := s - 18446744073709551616) (by omega) (by omega)]
    simp only [IntKind.wrap]
    rw [show (2 : Int) ^ IntKind.bits .i64 = 18446744073709551616 from rfl, show (s - 18446744073709551616) % 18446744073709551616 = s % 18446744073709551616 by omega]
  · by_cases b : s < -9223372036854775808
    · right; right
      refine ⟨b, ?_⟩
      rw [← wrap_id (n := s + 18446744073709551616) (by omega) (by omega)]
      simp only [IntKind.wrap]
      rw [show (2 : Int) ^ IntKind.bits .i64 = 18446744073709551616 from rfl, show (s + 18446744073709551616) % 18446744073709551616 = s % 18446744073709551616 by omega]
    · left; exact ⟨by omega, by omega, wrap_id (by omega) (by omega)⟩
def in64 (s : Int) : Prop := -9223372036854775808 ≤ s ∧ s ≤ 9223372036854775807
theorem nadd_spec {a b : Int} (ha : in64 a) (hb : in64 b) : (in64 (a + b) ∧ naddG a b = (a + b, 0) ∧ raddG a b = (a + b, true)) ∨ (¬ in64 (a + b) ∧ naddG a b = (0, 3) ∧ raddG a b = (0, false)) := by
  unfold in64 at *
  unfold naddG raddG
  rcases wrap_cases (a + b) (by omega) (by omega) with ⟨h1, h2, h3⟩ | ⟨h1, h3⟩ | ⟨h1, h3⟩
  · left
    refine ⟨⟨h1, h2⟩, ?_, ?_⟩
    · rw [h3]
      by_cases c : b = 0
      · subst c
        split
        · rfl
        · rw [if_neg (by simp)]
      · by_cases d : b > 0
        · rw [if_pos (by simp; omega)]
        · rw [if_pos (by simp; omega)]
    · rw [h3, if_neg (by omega)]
  · right
    refine ⟨by omega, ?_, ?_⟩
    · rw [h3, if_neg (by simp; omega), if_pos (by simp; omega)]
    · rw [h3, if_pos (by omega)]
  · right
    refine ⟨by omega, ?_, ?_⟩
    · rw [h3, if_neg (by simp; omega), if_pos (by simp; omega)]
    · rw [h3, if_pos (by omega)]
def sumZ : List Int → Int
  | [] => 0
  | x :: xs => x + sumZ xs
theorem sumZ_app : ∀ a b : List Int, sumZ (a ++ b) = sumZ a + sumZ b
  | [], b => by simp [sumZ]
  | x :: a, b => by simp only [List.cons_append, sumZ, sumZ_app a b]; omega
set_option maxHeartbeats 20000000 in
theorem sumR_ok : ∀ (l : List Int) (s : Int), in64 s → (∀ x ∈ l, in64 x) → (sumR s l).2 = 0 → sumR s l = (s + sumZ l, 0) ∧ in64 (s + sumZ l)
  | [], s, hs, _, _ => by simp [sumR, sumZ, hs]
  | x :: l, s, hs, hl, h => by
    rw [sumR] at h ⊢
    rcases nadd_spec hs (hl x (List.mem_cons_self ..)) with ⟨h1, h2, _⟩ | ⟨h1, h2, _⟩
    · rw [h2] at h ⊢
      have e0 : ((0 : Int) != 0) = false := rfl
      simp only [e0, Bool.false_eq_true, if_false] at h ⊢
      have := sumR_ok l (s + x) h1 (fun y hy => hl y (List.mem_cons_of_mem _ hy)) h
      simp only [sumZ]
      rw [show s + (x + sumZ l) = s + x + sumZ l by omega]
      exact this
    · rw [h2] at h
      simp at h
theorem sumR_err : ∀ (l : List Int) (s : Int), in64 s → (∀ x ∈ l, in64 x) → (sumR s l).2 ≠ 0 → sumR s l = (0, 3)
  | [], s, hs, _, h => by simp [sumR] at h
  | x :: l, s, hs, hl, h => by
    rw [sumR] at h ⊢
    rcases nadd_spec hs (hl x (List.mem_cons_self ..)) with ⟨h1, h2, _⟩ | ⟨h1, h2, _⟩
    · rw [h2] at h ⊢
      have e0 : ((0 : Int) != 0) = false := rfl
      simp only [e0, Bool.false_eq_true, if_false] at h ⊢
      exact sumR_err l (s + x) h1 (fun y hy => hl y (List.mem_cons_of_mem _ hy)) h
    · rw [h2]
      rfl
theorem ref_no (m : Nat) (x1 x2 x3 : Int) (RM : List Int) (a b w : Int) (l : List Int) (hb : l.length ≤ 20) : ∀ (n k : Nat), k ≤ l.length → l.length - k < n → ∃ w' j, l4_0 m n x1 x2 x3 RM a b w false (l.length : Nat) (k : Nat) l = some (0, w', false, j)
  | 0, k, _, h => by omega
  | n + 1, k, h1, h2 => by
    rw [l4_0]
    by_cases hk : k < l.length
    · have e1 : decide (((k : Nat) : Int) < (((List.length l) : Nat) : Int)) = true := decide_eq_true (by omega)
      have e2 : decide ((0 : Int) ≤ ((k : Nat) : Int)) = true := decide_eq_true (by omega)
      have e3 : decide ((0 + k) < List.length l) = true := decide_eq_true (by omega)
      have e7 : IntKind.wrap .i64 (((k : Nat) : Int) + (1)) = ((k + 1 : Nat) : Int) := by rw [wrap_id (by omega) (by omega)]; rfl
      rw [show Int.toNat ((k : Nat) : Int) = k from rfl, e7, if_pos e1, if_pos e2, if_pos e1, if_pos e3, if_neg (by simp)]
      exact ref_no m x1 x2 x3 RM a b w l hb n (k + 1) (by omega) (by omega)
    · have e1 : decide (((k : Nat) : Int) < (((List.length l) : Nat) : Int)) = false := decide_eq_false (by omega)
      rw [e1, if_neg (by simp)]
      exact ⟨_, _, rfl⟩
theorem ref_loop (m : Nat) (x1 x2 x3 : Int) (RM : List Int) (a b : Int) (l : List Int) (hb : l.length ≤ 20) (hl : ∀ x ∈ l, in64 x) : ∀ (n k : Nat) (s : Int), in64 s → k ≤ l.length → l.length - k < n →
    ((sumR s (l.drop k)).2 = 0 ∧ ∃ j, l4_0 m n x1 x2 x3 RM a b s true (l.length : Nat) (k : Nat) l = some (0, s + sumZ (l.drop k), true, j)) ∨ ((sumR s (l.drop k)).2 ≠ 0 ∧ ∃ w j, l4_0 m n x1 x2 x3 RM a b s true (l.length : Nat) (k : Nat) l = some (0, w, false, j))
  | 0, k, s, _, _, h => by omega
  | n + 1, k, s, hs, h1, h2 => by
    rw [l4_0]
    by_cases hk : k < l.length
    · have e1 : decide (((k : Nat) : Int) < (((List.length l) : Nat) : Int)) = true := decide_eq_true (by omega)
      have e2 : decide ((0 : Int) ≤ ((k : Nat) : Int)) = true := decide_eq_true (by omega)
      have e3 : decide ((0 + k) < List.length l) = true := decide_eq_true (by omega)
      have e7 : IntKind.wrap .i64 (((k : Nat) : Int) + (1)) = ((k + 1 : Nat) : Int) := by rw [wrap_id (by omega) (by omega)]; rfl
      rw [show Int.toNat ((k : Nat) : Int) = k from rfl, Nat.zero_add, e7, if_pos e1, if_pos e2, if_pos e1, if_pos (by rw [Nat.zero_add] at e3; exact e3), if_pos rfl]
      rw [drop_getD l k 0 hk, sumR]
      have hx := hl _ (getD_mem l k 0 hk)
      generalize l.getD k 0 = x at *
      rcases nadd_spec hs hx with ⟨q1, q2, q3⟩ | ⟨q1, q2, q3⟩
      · rw [q2, q3, if_pos rfl]
        have e0 : ((0 : Int) != 0) = false := rfl
        simp only [e0, Bool.false_eq_true, if_false, sumZ]
        have := ref_loop m x1 x2 x3 RM a b l hb hl n (k + 1) (s + x) q1 (by omega) (by omega)
        rw [show s + (x + sumZ (l.drop (k + 1))) = s + x + sumZ (l.drop (k + 1)) by omega]
        exact this
      · have eS : (if ((((0 : Int), (3 : Int)).2 != 0) = true) then ((0 : Int), ((0 : Int), (3 : Int)).2) else sumR ((0 : Int), (3 : Int)).1 (l.drop (k + 1))) = (0, 3) := rfl
        rw [q2, eS, q3, if_neg (by simp)]
        right
        obtain ⟨w, j, hw⟩ := ref_no m x1 x2 x3 RM a b s l hb n (k + 1) (by omega) (by omega)
        exact ⟨by simp, w, j, hw⟩
    · have e1 : decide (((k : Nat) : Int) < (((List.length l) : Nat) : Int)) = false := decide_eq_false (by omega)
      rw [e1, if_neg (by simp), List.drop_eq_nil_of_le (by omega)]
      left
      exact ⟨rfl, (k : Nat), by simp [sumZ]⟩
theorem up_spec {X Y : Int} (h1 : 0 ≤ X) (h2 : X ≤ 1099511627776) (h3 : 1 ≤ Y) (h4 : Y ≤ 1048576) :
    ∃ n : Int, upG X Y = n ∧ 0 ≤ n ∧ n ≤ 1099511627777 ∧ X ≤ n * Y ∧ n * Y ≤ 1099512676352 ∧ (n - 1) * Y < X ∧ -1048576 ≤ (n - 1) * Y := by
  have q1 : 0 ≤ X / Y := Int.ediv_nonneg h1 (by omega)
  have q2 : X / Y ≤ X := Int.ediv_le_self Y h1
  have q3 := Int.emod_nonneg X (b := Y) (by omega)
  have q4 := Int.emod_lt_of_pos X (b := Y) (by omega)
  have q5 := Int.mul_ediv_add_emod X Y
  have q6 : 0 ≤ Y * (X / Y) := Int.mul_nonneg (by omega) q1
  unfold upG
  rw [if_neg (by omega), if_neg (by omega), Int.tmod_eq_emod_of_nonneg h1, Int.tdiv_eq_ediv_of_nonneg h1]
  generalize X / Y = q at *
  generalize X % Y = r at *
  have e1 : (q + 1) * Y = Y * q + Y := by rw [Int.add_mul, Int.one_mul, Int.mul_comm]
  have e2 : (q + 1 - 1) * Y = Y * q := by rw [Int.add_sub_cancel, Int.mul_comm]
  have e3 : q * Y = Y * q := Int.mul_comm ..
  have e4 : (q - 1) * Y = Y * q - Y := by rw [Int.sub_mul, Int.one_mul, Int.mul_comm]
  have w1 : IntKind.wrap .i64 q = q := wrap_id (by omega) (by omega)
  have w2 : IntKind.wrap .i64 (q + 1) = q + 1 := wrap_id (by omega) (by omega)
  generalize Y * q = p at *
  by_cases hr : r > 0
  · rw [if_pos hr, w1, w2]
    exact ⟨q + 1, rfl, by omega, by omega, by omega, by omega, by omega, by omega⟩
  · rw [if_neg hr, w1]
    exact ⟨q, rfl, by omega, by omega, by omega, by omega, by omega, by omega⟩
theorem sumR_split {L : List Int} {c : Nat} {u v w s : Int} (hin : ∀ x ∈ L, in64 x) (h1 : sumG (L.take c) = (u, 0)) (h2 : sumG (L.drop c) = (v, 0)) (h3 : naddG u v = (w, 0)) (h4 : sumG L = (s, 0)) : w = s := by
  have z : in64 0 := ⟨by omega, by omega⟩
  unfold sumG at *
  have a1 := sumR_ok (L.take c) 0 z (fun x hx => hin x (List.mem_of_mem_take hx)) (by rw [h1])
  have a2 := sumR_ok (L.drop c) 0 z (fun x hx => hin x (List.mem_of_mem_drop hx)) (by rw [h2])
  have a3 := sumR_ok L 0 z hin (by rw [h4])
  rw [h1] at a1; rw [h2] at a2; rw [h4] at a3
  simp only [Prod.mk.injEq, and_true] at a1 a2 a3
  have hs : sumZ L = sumZ (L.take c) + sumZ (L.drop c) := by rw [← sumZ_app, List.take_append_drop]
  have iu : in64 u := by rw [a1.1]; exact a1.2
  have iv : in64 v := by rw [a2.1]; exact a2.2
  rcases nadd_spec iu iv with ⟨_, n2, _⟩ | ⟨_, n2, _⟩
  · rw [h3] at n2
    simp only [Prod.mk.injEq, and_true] at n2
    omega
  · rw [h3] at n2
    simp at n2
theorem sums_pure (x0 : List Int) (x1 x2 x3 : Int) (h0 : ∀ x ∈ x0, in64 x) : ∃ m q, sums m x0 x1 x2 x3 = some q := by
  refine ⟨0, (), ?_⟩
  have c0 : (decide (0 ≤ (if (20 : Int) < (((List.length x0) : Nat) : Int) then (20) else (((List.length x0) : Nat) : Int))) && decide ((if (20 : Int) < (((List.length x0) : Nat) : Int) then (20) else (((List.length x0) : Nat) : Int)) ≤ (((List.length x0) : Nat) : Int))) = true := by
    split <;> simp <;> omega
  have hO : List.drop 0 (List.take (Int.toNat (if (20 : Int) < (((List.length x0) : Nat) : Int) then (20) else (((List.length x0) : Nat) : Int))) x0) = x0.take 20 := by
    rw [List.drop_zero]
    by_cases h : (20 : Int) < (((List.length x0) : Nat) : Int)
    · rw [if_pos h]; rfl
    · rw [if_neg h, show Int.toNat (((List.length x0) : Nat) : Int) = x0.length from rfl, List.take_length, List.take_of_length_le (by omega)]
  unfold sums
  try delta sums_k32
  try delta sums_k31
  try delta sums_k30
  try delta sums_k29
  try delta sums_k28
  try delta sums_k27
  try delta sums_k26
  try delta sums_k25
  try delta sums_k24
  try delta sums_k23
  try delta sums_k22
  try delta sums_k21
  try delta sums_k20
  try delta sums_k19
  try delta sums_k18
  try delta sums_k17
  try delta sums_k16
  try delta sums_k15
  try delta sums_k14
  try delta sums_k13
  try delta sums_k12
  try delta sums_k11
  try delta sums_k10
  try delta sums_k9
  try delta sums_k8
  try delta sums_k7
  try delta sums_k6
  try delta sums_k5
  try delta sums_k4
  try delta sums_k3
  try delta sums_k2
  try delta sums_k1
  rw [if_pos c0]
  simp only [hO]
  have hl : (x0.take 20).length ≤ 20 := by rw [List.length_take]; omega
  have hin : ∀ x ∈ x0.take 20, in64 x := fun x hx => h0 x (List.mem_of_mem_take hx)
  clear hO c0
  generalize x0.take 20 = L at *
  have hX : 0 ≤ withinI x2 0 1099511627776 ∧ withinI x2 0 1099511627776 ≤ 1099511627776 := by unfold withinI; omega
  have hY : 1 ≤ withinI x3 1 1048576 ∧ withinI x3 1 1048576 ≤ 1048576 := by unfold withinI; omega
  generalize withinI x2 0 1099511627776 = X at *
  generalize withinI x3 1 1048576 = Y at *
  obtain ⟨c, hc, hc'⟩ : ∃ c : Nat, withinI x1 0 ((L.length : Nat) : Int) = ((c : Nat) : Int) ∧ c ≤ L.length := by
    have p : ((L.length : Nat) : Int) - 0 + 1 > 0 := by omega
    have q1 := Int.emod_nonneg x1 (Int.ne_of_gt p)
    have q2 := Int.emod_lt_of_pos x1 p
    unfold withinI
    generalize x1 % (((L.length : Nat) : Int) - 0 + 1) = y at *
    exact ⟨y.toNat, by omega, by omega⟩
  have eT : List.take L.length (roomyG L 7) = L := by unfold roomyG; simp
  have lR : (roomyG L 7).length = L.length + 80 := by unfold roomyG; simp
  have eI : intactG (roomyG L 7) L 7 = true := by unfold intactG roomyG; simp
  have eV : List.take (L.length - c) (L.drop c) = L.drop c := List.take_of_length_le (by rw [List.length_drop]; omega)
  have l1 : (L.take c).length = c := by rw [List.length_take]; omega
  have l2 : (L.drop c).length = L.length - c := by rw [List.length_drop]
  obtain ⟨n, hn, n1, n2, n3, n4, n5, n6⟩ := up_spec hX.1 hX.2 hY.1 hY.2
  have w1 : IntKind.wrap .i64 (n * Y) = n * Y := wrap_id (by omega) (by omega)
  have w2 : IntKind.wrap .i64 (n - (1)) = n - 1 := wrap_id (by omega) (by omega)
  have w3 : IntKind.wrap .i64 ((n - 1) * Y) = (n - 1) * Y := wrap_id (by omega) (by omega)
  have w4 : IntKind.wrap .i64 (0 - X) = 0 - X := wrap_id (by omega) (by omega)
  have w5 : IntKind.wrap .i64 (0 - X - (1)) = 0 - X - 1 := wrap_id (by omega) (by omega)
  have w6 : IntKind.wrap .i64 (0 - Y) = 0 - Y := wrap_id (by omega) (by omega)
  have u1 : upG (0 - X - 1) Y = 0 := by unfold upG; rw [if_pos (by omega)]
  have u2 : upG X (0 - Y) = 0 := by unfold upG; rw [if_neg (by omega), if_pos (by omega)]
  have u3 : upG X 0 = 0 := by unfold upG; rw [if_neg (by omega), if_pos (by omega)]
  have e1 : decide (L.length * 8 ≤ 70368744177664) = true := decide_eq_true (by omega)
  have e2 : decide (L.length ≤ L.length) = true := decide_eq_true (by omega)
  have e3 : decide (L.length ≤ 1000000) = true := decide_eq_true (by omega)
  have e4 : decide ((0 : Int) ≤ ((L.length : Nat) : Int)) = true := decide_eq_true (by omega)
  have e5 : decide (((L.length : Nat) : Int) ≤ (((roomyG L 7).length : Nat) : Int)) = true := decide_eq_true (by omega)
  have e6 : decide (((L.length : Nat) : Int) ≤ 2305843009213693951) = true := decide_eq_true (by omega)
  have e7 : decide (((L.length : Nat) : Int) - (0) ≤ 2305843009213693951) = true := decide_eq_true (by omega)
  have e8 : decide ((0 : Int) ≤ ((c : Nat) : Int)) = true := decide_eq_true (by omega)
  have e9 : decide (((c : Nat) : Int) ≤ ((L.length : Nat) : Int)) = true := decide_eq_true (by omega)
  have f1 : decide (c ≤ L.length) = true := decide_eq_true (by omega)
  have f2 : decide ((L.take c).length ≤ 1000000) = true := decide_eq_true (by omega)
  have f3 : decide (c + (L.length - c) ≤ L.length) = true := decide_eq_true (by omega)
  have f4 : decide ((L.drop c).length ≤ 1000000) = true := decide_eq_true (by omega)
  have f5 : decide (([] : List Int).length ≤ 1000000) = true := rfl
  have f6 : decide ((roomyG L 7).length ≤ 1000000 ∧ L.length ≤ 1000000) = true := decide_eq_true (by omega)
  have g1 : decide (n * Y ≥ X) = true := decide_eq_true (by omega)
  have g2 : decide ((n - 1) * Y < X) = true := decide_eq_true (by omega)
  have z : in64 0 := ⟨by omega, by omega⟩
  have R := ref_loop 0 x1 x2 x3 (roomyG L 7) (sumG L).1 (sumG L).2 L hl hin 24 0 0 z (by omega) (by omega)
  simp only [Int.natCast_zero, List.drop_zero, Int.zero_add] at R
  have g3 : ((0 : Int) == 0) = true := rfl
  have g4 : ((3 : Int) == 3) = true := rfl
  have g5 : ((3 : Int) == 0) = false := rfl
  have tt : (true == true) = true := rfl
  have ff : (false == false) = true := rfl
  have X0 : n = 0 → X = 0 := fun h => by subst h; omega
  have n0 : (n == (0 : Int)) = true → (X == (0 : Int)) = true := fun h => by
    rw [X0 (eq_of_beq h)]; rfl
  simp only [Nat.zero_add, List.drop_zero, Nat.sub_zero, hc, show ∀ k : Nat, Int.toNat ((k : Nat) : Int) = k from fun _ => rfl, List.take_length, eT, eV, hn, w1, w2, w3, w4, w5, w6, u1, u2, u3, e1, e2, e3, e4, e5, e6, e7, e8, e9, f1, f2, f3, f4, f5, f6, g1, g2, g3, eI, Bool.and_self, Bool.or_true, ↓reduceIte]
  have fin : ∀ s : Int, sumG L = (s, 0) → ∀ d : List Int, L.drop c = d → (if ((sumG (L.take c)).2 == 0) = true then if ((sumG d).2 == 0) = true then if ((naddG (sumG (L.take c)).1 (sumG d).1).2 == 0) = true then if ((naddG (sumG (L.take c)).1 (sumG d).1).1 != s) = true then none else some () else some () else some () else some ()) = some () := by
    rintro s hs d rfl
    by_cases p1 : ((sumG (L.take c)).2 == 0) = true
    · rw [if_pos p1]
      by_cases p2 : ((sumG (L.drop c)).2 == 0) = true
      · rw [if_pos p2]
        by_cases p3 : ((naddG (sumG (L.take c)).1 (sumG (L.drop c)).1).2 == 0) = true
        · rw [if_pos p3]
          have q1 : sumG (L.take c) = ((sumG (L.take c)).1, 0) := Prod.ext rfl (eq_of_beq p1)
          have q2 : sumG (L.drop c) = ((sumG (L.drop c)).1, 0) := Prod.ext rfl (eq_of_beq p2)
          have q3 : naddG (sumG (L.take c)).1 (sumG (L.drop c)).1 = ((naddG (sumG (L.take c)).1 (sumG (L.drop c)).1).1, 0) := Prod.ext rfl (eq_of_beq p3)
          rw [sumR_split hin q1 q2 q3 hs, if_neg (by simp)]
        · rw [if_neg p3]
      · rw [if_neg p2]
    · rw [if_neg p1]
  rcases R with ⟨r1, j, r2⟩ | ⟨r1, w, j, r2⟩
  · have hs : sumG L = (sumZ L, 0) := by
      have := (sumR_ok L 0 z hin r1).1
      rw [Int.zero_add] at this
      exact this
    have hR : l4_0R 0 24 x1 x2 x3 (roomyG L 7) (sumG L).1 (sumG L).2 0 true ((L.length : Nat) : Int) 0 L = (0, sumZ L, true, j) := by
      unfold l4_0R; rw [r2]; rfl
    simp only [r2, hR, Option.isSome_some, ↓reduceIte]
    have fin := fin _ hs
    simp only [hs, g3, tt, beq_self_eq_true, ↓reduceIte, ite_self]
    by_cases cc : (decide (c < L.length) || decide (c = 0)) = true
    · rw [if_pos cc]
      exact fin _ rfl
    · rw [if_neg cc]
      have : ¬ c < L.length := fun h => cc (by simp [h])
      exact fin [] (List.drop_eq_nil_of_le (by omega))
  · have hs : sumG L = (0, 3) := sumR_err L 0 z hin r1
    have hR : l4_0R 0 24 x1 x2 x3 (roomyG L 7) (sumG L).1 (sumG L).2 0 true ((L.length : Nat) : Int) 0 L = (0, w, false, j) := by
      unfold l4_0R; rw [r2]; rfl
    simp only [r2, hR, Option.isSome_some, Bool.false_eq_true, ↓reduceIte]
    simp only [hs, g3, g4, g5, ff, beq_self_eq_true, Bool.false_eq_true, ↓reduceIte, ite_self]
theorem ok_in64 {x : Int} (h : Ty.ok (.int .i64) x) : in64 x := by
  unfold Ty.ok at h
  unfold in64
  simp [Lit.wf] at h
  have hm : IntKind.min .i64 = -9223372036854775808 := rfl
  omega
theorem sums_law (x0 : List Int) (x1 x2 x3 : Int) (ok0 : Ty.ok (.sl (.int .i64)) x0) (_ : Ty.ok (.int .i64) x1) (_ : Ty.ok (.int .i64) x2) (_ : Ty.ok (.int .i64) x3) : ∃ g B', CallAt Try.prog 4 g ∧ (g [argAV false (.sl (.int .i64)) x0, argAV false (.int .i64) x1, argAV false (.int .i64) x2, argAV false (.int .i64) x3] []).run = some (.d (.bool true), B') := sums_at x0 x1 x2 x3 (sums_pure x0 x1 x2 x3 fun x hx => ok_in64 (ok0.2 x hx))

end Go.Proofs.Ytkppbflmlpabjaa.Dec
