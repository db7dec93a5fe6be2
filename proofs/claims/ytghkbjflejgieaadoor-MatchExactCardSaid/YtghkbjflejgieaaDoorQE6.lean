/- klaxonkeep.Set.Set. MatchRuns, MuteRuns, reckoned. What the functions below call. Words. Right matchers. -/
import Derived.Test.YtghkbjflejgieaaDoorQE5
import Derived.KernelRfl
namespace Go.Proofs.YtghkbjflejgieaaDoor.Dec
open Go.Ev
set_option linter.unusedVariables false
set_option linter.unusedSimpArgs false
set_option maxRecDepth 100000
noncomputable def fn15 : AFn := (F 15).getD ⟨0, [], .bad, false, false, noHd⟩
noncomputable def body15 : AC := fn15.body
noncomputable def lbu15_0 : AC := loopBody 3610 body15
def p15 (m : Nat) (x0 : (List Int) × (List Int)) : Option ((List ((List UInt8) × (List UInt8)))) :=
  if decide (0 < (((List.length x0.1) : Nat) : Int)) = true then
    if ((IntKind.wrap .i64 ((((BitVec.ofInt 64 (List.getD x0.1 0 0) &&& BitVec.ofInt 64 (1)).toNat : Nat) : Int))) == (1)) = true then
      if pickPre x0.2 (0) = true then
        if decide (0 ≤ (withinI (pickG x0.2 (0)) (0) (7))) = true then
          if decide ((withinI (pickG x0.2 (0)) (0) (7)) < 8) = true then
            if decide (1 < (((List.length x0.1) : Nat) : Int)) = true then
              if ((IntKind.wrap .i64 ((((BitVec.ofInt 64 (List.getD x0.1 1 0) &&& BitVec.ofInt 64 (1)).toNat : Nat) : Int))) == (1)) = true then
                if pickPre x0.2 (1) = true then
                  if decide (0 ≤ (withinI (pickG x0.2 (1)) (0) (7))) = true then
                    if decide ((withinI (pickG x0.2 (1)) (0) (7)) < 8) = true then
                      if decide (2 < (((List.length x0.1) : Nat) : Int)) = true then
                        if ((IntKind.wrap .i64 ((((BitVec.ofInt 64 (List.getD x0.1 2 0) &&& BitVec.ofInt 64 (1)).toNat : Nat) : Int))) == (1)) = true then
                          if pickPre x0.2 (2) = true then
                            if decide (0 ≤ (withinI (pickG x0.2 (2)) (0) (7))) = true then
                              if decide ((withinI (pickG x0.2 (2)) (0) (7)) < 8) = true then
                                some ([(([97] : List UInt8), (List.getD [([120] : List UInt8), ([121] : List UInt8), ([120, 121] : List UInt8), ([49] : List UInt8), ([34] : List UInt8), ([92] : List UInt8), ([123, 125] : List UInt8), ([122, 32, 122] : List UInt8)] (Int.toNat (withinI (pickG x0.2 (0)) (0) (7))) ([] : List UInt8))), (([98] : List UInt8), (List.getD [([120] : List UInt8), ([121] : List UInt8), ([120, 121] : List UInt8), ([49] : List UInt8), ([34] : List UInt8), ([92] : List UInt8), ([123, 125] : List UInt8), ([122, 32, 122] : List UInt8)] (Int.toNat (withinI (pickG x0.2 (1)) (0) (7))) ([] : List UInt8))), (([99] : List UInt8), (List.getD [([120] : List UInt8), ([121] : List UInt8), ([120, 121] : List UInt8), ([49] : List UInt8), ([34] : List UInt8), ([92] : List UInt8), ([123, 125] : List UInt8), ([122, 32, 122] : List UInt8)] (Int.toNat (withinI (pickG x0.2 (2)) (0) (7))) ([] : List UInt8)))])
                              else
                                none
                            else
                              none
                          else
                            none
                        else
                          some ([(([97] : List UInt8), (List.getD [([120] : List UInt8), ([121] : List UInt8), ([120, 121] : List UInt8), ([49] : List UInt8), ([34] : List UInt8), ([92] : List UInt8), ([123, 125] : List UInt8), ([122, 32, 122] : List UInt8)] (Int.toNat (withinI (pickG x0.2 (0)) (0) (7))) ([] : List UInt8))), (([98] : List UInt8), (List.getD [([120] : List UInt8), ([121] : List UInt8), ([120, 121] : List UInt8), ([49] : List UInt8), ([34] : List UInt8), ([92] : List UInt8), ([123, 125] : List UInt8), ([122, 32, 122] : List UInt8)] (Int.toNat (withinI (pickG x0.2 (1)) (0) (7))) ([] : List UInt8)))])
                      else
                        some ([(([97] : List UInt8), (List.getD [([120] : List UInt8), ([121] : List UInt8), ([120, 121] : List UInt8), ([49] : List UInt8), ([34] : List UInt8), ([92] : List UInt8), ([123, 125] : List UInt8), ([122, 32, 122] : List UInt8)] (Int.toNat (withinI (pickG x0.2 (0)) (0) (7))) ([] : List UInt8))), (([98] : List UInt8), (List.getD [([120] : List UInt8), ([121] : List UInt8), ([120, 121] : List UInt8), ([49] : List UInt8), ([34] : List UInt8), ([92] : List UInt8), ([123, 125] : List UInt8), ([122, 32, 122] : List UInt8)] (Int.toNat (withinI (pickG x0.2 (1)) (0) (7))) ([] : List UInt8)))])
                    else
                      none
                  else
                    none
                else
                  none
              else
                if decide (2 < (((List.length x0.1) : Nat) : Int)) = true then
                  if ((IntKind.wrap .i64 ((((BitVec.ofInt 64 (List.getD x0.1 2 0) &&& BitVec.ofInt 64 (1)).toNat : Nat) : Int))) == (1)) = true then
                    if pickPre x0.2 (2) = true then
                      if decide (0 ≤ (withinI (pickG x0.2 (2)) (0) (7))) = true then
                        if decide ((withinI (pickG x0.2 (2)) (0) (7)) < 8) = true then
                          some ([(([97] : List UInt8), (List.getD [([120] : List UInt8), ([121] : List UInt8), ([120, 121] : List UInt8), ([49] : List UInt8), ([34] : List UInt8), ([92] : List UInt8), ([123, 125] : List UInt8), ([122, 32, 122] : List UInt8)] (Int.toNat (withinI (pickG x0.2 (0)) (0) (7))) ([] : List UInt8))), (([99] : List UInt8), (List.getD [([120] : List UInt8), ([121] : List UInt8), ([120, 121] : List UInt8), ([49] : List UInt8), ([34] : List UInt8), ([92] : List UInt8), ([123, 125] : List UInt8), ([122, 32, 122] : List UInt8)] (Int.toNat (withinI (pickG x0.2 (2)) (0) (7))) ([] : List UInt8)))])
                        else
                          none
                      else
                        none
                    else
                      none
                  else
                    some ([(([97] : List UInt8), (List.getD [([120] : List UInt8), ([121] : List UInt8), ([120, 121] : List UInt8), ([49] : List UInt8), ([34] : List UInt8), ([92] : List UInt8), ([123, 125] : List UInt8), ([122, 32, 122] : List UInt8)] (Int.toNat (withinI (pickG x0.2 (0)) (0) (7))) ([] : List UInt8)))])
                else
                  some ([(([97] : List UInt8), (List.getD [([120] : List UInt8), ([121] : List UInt8), ([120, 121] : List UInt8), ([49] : List UInt8), ([34] : List UInt8), ([92] : List UInt8), ([123, 125] : List UInt8), ([122, 32, 122] : List UInt8)] (Int.toNat (withinI (pickG x0.2 (0)) (0) (7))) ([] : List UInt8)))])
            else
              if decide (2 < (((List.length x0.1) : Nat) : Int)) = true then
                if ((IntKind.wrap .i64 ((((BitVec.ofInt 64 (List.getD x0.1 2 0) &&& BitVec.ofInt 64 (1)).toNat : Nat) : Int))) == (1)) = true then
                  if pickPre x0.2 (2) = true then
                    if decide (0 ≤ (withinI (pickG x0.2 (2)) (0) (7))) = true then
                      if decide ((withinI (pickG x0.2 (2)) (0) (7)) < 8) = true then
                        some ([(([97] : List UInt8), (List.getD [([120] : List UInt8), ([121] : List UInt8), ([120, 121] : List UInt8), ([49] : List UInt8), ([34] : List UInt8), ([92] : List UInt8), ([123, 125] : List UInt8), ([122, 32, 122] : List UInt8)] (Int.toNat (withinI (pickG x0.2 (0)) (0) (7))) ([] : List UInt8))), (([99] : List UInt8), (List.getD [([120] : List UInt8), ([121] : List UInt8), ([120, 121] : List UInt8), ([49] : List UInt8), ([34] : List UInt8), ([92] : List UInt8), ([123, 125] : List UInt8), ([122, 32, 122] : List UInt8)] (Int.toNat (withinI (pickG x0.2 (2)) (0) (7))) ([] : List UInt8)))])
                      else
                        none
                    else
                      none
                  else
                    none
                else
                  some ([(([97] : List UInt8), (List.getD [([120] : List UInt8), ([121] : List UInt8), ([120, 121] : List UInt8), ([49] : List UInt8), ([34] : List UInt8), ([92] : List UInt8), ([123, 125] : List UInt8), ([122, 32, 122] : List UInt8)] (Int.toNat (withinI (pickG x0.2 (0)) (0) (7))) ([] : List UInt8)))])
              else
                some ([(([97] : List UInt8), (List.getD [([120] : List UInt8), ([121] : List UInt8), ([120, 121] : List UInt8), ([49] : List UInt8), ([34] : List UInt8), ([92] : List UInt8), ([123, 125] : List UInt8), ([122, 32, 122] : List UInt8)] (Int.toNat (withinI (pickG x0.2 (0)) (0) (7))) ([] : List UInt8)))])
          else
            none
        else
          none
      else
        none
    else
      if decide (1 < (((List.length x0.1) : Nat) : Int)) = true then
        if ((IntKind.wrap .i64 ((((BitVec.ofInt 64 (List.getD x0.1 1 0) &&& BitVec.ofInt 64 (1)).toNat : Nat) : Int))) == (1)) = true then
          if pickPre x0.2 (1) = true then
            if decide (0 ≤ (withinI (pickG x0.2 (1)) (0) (7))) = true then
              if decide ((withinI (pickG x0.2 (1)) (0) (7)) < 8) = true then
                if decide (2 < (((List.length x0.1) : Nat) : Int)) = true then
                  if ((IntKind.wrap .i64 ((((BitVec.ofInt 64 (List.getD x0.1 2 0) &&& BitVec.ofInt 64 (1)).toNat : Nat) : Int))) == (1)) = true then
                    if pickPre x0.2 (2) = true then
                      if decide (0 ≤ (withinI (pickG x0.2 (2)) (0) (7))) = true then
                        if decide ((withinI (pickG x0.2 (2)) (0) (7)) < 8) = true then
                          some ([(([98] : List UInt8), (List.getD [([120] : List UInt8), ([121] : List UInt8), ([120, 121] : List UInt8), ([49] : List UInt8), ([34] : List UInt8), ([92] : List UInt8), ([123, 125] : List UInt8), ([122, 32, 122] : List UInt8)] (Int.toNat (withinI (pickG x0.2 (1)) (0) (7))) ([] : List UInt8))), (([99] : List UInt8), (List.getD [([120] : List UInt8), ([121] : List UInt8), ([120, 121] : List UInt8), ([49] : List UInt8), ([34] : List UInt8), ([92] : List UInt8), ([123, 125] : List UInt8), ([122, 32, 122] : List UInt8)] (Int.toNat (withinI (pickG x0.2 (2)) (0) (7))) ([] : List UInt8)))])
                        else
                          none
                      else
                        none
                    else
                      none
                  else
                    some ([(([98] : List UInt8), (List.getD [([120] : List UInt8), ([121] : List UInt8), ([120, 121] : List UInt8), ([49] : List UInt8), ([34] : List UInt8), ([92] : List UInt8), ([123, 125] : List UInt8), ([122, 32, 122] : List UInt8)] (Int.toNat (withinI (pickG x0.2 (1)) (0) (7))) ([] : List UInt8)))])
                else
                  some ([(([98] : List UInt8), (List.getD [([120] : List UInt8), ([121] : List UInt8), ([120, 121] : List UInt8), ([49] : List UInt8), ([34] : List UInt8), ([92] : List UInt8), ([123, 125] : List UInt8), ([122, 32, 122] : List UInt8)] (Int.toNat (withinI (pickG x0.2 (1)) (0) (7))) ([] : List UInt8)))])
              else
                none
            else
              none
          else
            none
        else
          if decide (2 < (((List.length x0.1) : Nat) : Int)) = true then
            if ((IntKind.wrap .i64 ((((BitVec.ofInt 64 (List.getD x0.1 2 0) &&& BitVec.ofInt 64 (1)).toNat : Nat) : Int))) == (1)) = true then
              if pickPre x0.2 (2) = true then
                if decide (0 ≤ (withinI (pickG x0.2 (2)) (0) (7))) = true then
                  if decide ((withinI (pickG x0.2 (2)) (0) (7)) < 8) = true then
                    some ([(([99] : List UInt8), (List.getD [([120] : List UInt8), ([121] : List UInt8), ([120, 121] : List UInt8), ([49] : List UInt8), ([34] : List UInt8), ([92] : List UInt8), ([123, 125] : List UInt8), ([122, 32, 122] : List UInt8)] (Int.toNat (withinI (pickG x0.2 (2)) (0) (7))) ([] : List UInt8)))])
                  else
                    none
                else
                  none
              else
                none
            else
              some (([] : List ((List UInt8) × (List UInt8))))
          else
            some (([] : List ((List UInt8) × (List UInt8))))
      else
        if decide (2 < (((List.length x0.1) : Nat) : Int)) = true then
          if ((IntKind.wrap .i64 ((((BitVec.ofInt 64 (List.getD x0.1 2 0) &&& BitVec.ofInt 64 (1)).toNat : Nat) : Int))) == (1)) = true then
            if pickPre x0.2 (2) = true then
              if decide (0 ≤ (withinI (pickG x0.2 (2)) (0) (7))) = true then
                if decide ((withinI (pickG x0.2 (2)) (0) (7)) < 8) = true then
                  some ([(([99] : List UInt8), (List.getD [([120] : List UInt8), ([121] : List UInt8), ([120, 121] : List UInt8), ([49] : List UInt8), ([34] : List UInt8), ([92] : List UInt8), ([123, 125] : List UInt8), ([122, 32, 122] : List UInt8)] (Int.toNat (withinI (pickG x0.2 (2)) (0) (7))) ([] : List UInt8)))])
                else
                  none
              else
                none
            else
              none
          else
            some (([] : List ((List UInt8) × (List UInt8))))
        else
          some (([] : List ((List UInt8) × (List UInt8))))
  else
    if decide (1 < (((List.length x0.1) : Nat) : Int)) = true then
      if ((IntKind.wrap .i64 ((((BitVec.ofInt 64 (List.getD x0.1 1 0) &&& BitVec.ofInt 64 (1)).toNat : Nat) : Int))) == (1)) = true then
        if pickPre x0.2 (1) = true then
          if decide (0 ≤ (withinI (pickG x0.2 (1)) (0) (7))) = true then
            if decide ((withinI (pickG x0.2 (1)) (0) (7)) < 8) = true then
              if decide (2 < (((List.length x0.1) : Nat) : Int)) = true then
                if ((IntKind.wrap .i64 ((((BitVec.ofInt 64 (List.getD x0.1 2 0) &&& BitVec.ofInt 64 (1)).toNat : Nat) : Int))) == (1)) = true then
                  if pickPre x0.2 (2) = true then
                    if decide (0 ≤ (withinI (pickG x0.2 (2)) (0) (7))) = true then
                      if decide ((withinI (pickG x0.2 (2)) (0) (7)) < 8) = true then
                        some ([(([98] : List UInt8), (List.getD [([120] : List UInt8), ([121] : List UInt8), ([120, 121] : List UInt8), ([49] : List UInt8), ([34] : List UInt8), ([92] : List UInt8), ([123, 125] : List UInt8), ([122, 32, 122] : List UInt8)] (Int.toNat (withinI (pickG x0.2 (1)) (0) (7))) ([] : List UInt8))), (([99] : List UInt8), (List.getD [([120] : List UInt8), ([121] : List UInt8), ([120, 121] : List UInt8), ([49] : List UInt8), ([34] : List UInt8), ([92] : List UInt8), ([123, 125] : List UInt8), ([122, 32, 122] : List UInt8)] (Int.toNat (withinI (pickG x0.2 (2)) (0) (7))) ([] : List UInt8)))])
                      else
                        none
                    else
                      none
                  else
                    none
                else
                  some ([(([98] : List UInt8), (List.getD [([120] : List UInt8), ([121] : List UInt8), ([120, 121] : List UInt8), ([49] : List UInt8), ([34] : List UInt8), ([92] : List UInt8), ([123, 125] : List UInt8), ([122, 32, 122] : List UInt8)] (Int.toNat (withinI (pickG x0.2 (1)) (0) (7))) ([] : List UInt8)))])
              else
                some ([(([98] : List UInt8), (List.getD [([120] : List UInt8), ([121] : List UInt8), ([120, 121] : List UInt8), ([49] : List UInt8), ([34] : List UInt8), ([92] : List UInt8), ([123, 125] : List UInt8), ([122, 32, 122] : List UInt8)] (Int.toNat (withinI (pickG x0.2 (1)) (0) (7))) ([] : List UInt8)))])
            else
              none
          else
            none
        else
          none
      else
        if decide (2 < (((List.length x0.1) : Nat) : Int)) = true then
          if ((IntKind.wrap .i64 ((((BitVec.ofInt 64 (List.getD x0.1 2 0) &&& BitVec.ofInt 64 (1)).toNat : Nat) : Int))) == (1)) = true then
            if pickPre x0.2 (2) = true then
              if decide (0 ≤ (withinI (pickG x0.2 (2)) (0) (7))) = true then
                if decide ((withinI (pickG x0.2 (2)) (0) (7)) < 8) = true then
                  some ([(([99] : List UInt8), (List.getD [([120] : List UInt8), ([121] : List UInt8), ([120, 121] : List UInt8), ([49] : List UInt8), ([34] : List UInt8), ([92] : List UInt8), ([123, 125] : List UInt8), ([122, 32, 122] : List UInt8)] (Int.toNat (withinI (pickG x0.2 (2)) (0) (7))) ([] : List UInt8)))])
                else
                  none
              else
                none
            else
              none
          else
            some (([] : List ((List UInt8) × (List UInt8))))
        else
          some (([] : List ((List UInt8) × (List UInt8))))
    else
      if decide (2 < (((List.length x0.1) : Nat) : Int)) = true then
        if ((IntKind.wrap .i64 ((((BitVec.ofInt 64 (List.getD x0.1 2 0) &&& BitVec.ofInt 64 (1)).toNat : Nat) : Int))) == (1)) = true then
          if pickPre x0.2 (2) = true then
            if decide (0 ≤ (withinI (pickG x0.2 (2)) (0) (7))) = true then
              if decide ((withinI (pickG x0.2 (2)) (0) (7)) < 8) = true then
                some ([(([99] : List UInt8), (List.getD [([120] : List UInt8), ([121] : List UInt8), ([120, 121] : List UInt8), ([49] : List UInt8), ([34] : List UInt8), ([92] : List UInt8), ([123, 125] : List UInt8), ([122, 32, 122] : List UInt8)] (Int.toNat (withinI (pickG x0.2 (2)) (0) (7))) ([] : List UInt8)))])
              else
                none
            else
              none
          else
            none
        else
          some (([] : List ((List UInt8) × (List UInt8))))
      else
        some (([] : List ((List UInt8) × (List UInt8))))
@[reducible] def p15_k1 (x0 : (List Int) × (List Int)) := (List.getD [([120] : List UInt8), ([121] : List UInt8), ([120, 121] : List UInt8), ([49] : List UInt8), ([34] : List UInt8), ([92] : List UInt8), ([123, 125] : List UInt8), ([122, 32, 122] : List UInt8)] (Int.toNat (withinI (pickG x0.2 (0)) (0) (7))) ([] : List UInt8))
@[reducible] def p15_k2 (x0 : (List Int) × (List Int)) := (List.getD [([120] : List UInt8), ([121] : List UInt8), ([120, 121] : List UInt8), ([49] : List UInt8), ([34] : List UInt8), ([92] : List UInt8), ([123, 125] : List UInt8), ([122, 32, 122] : List UInt8)] (Int.toNat (withinI (pickG x0.2 (1)) (0) (7))) ([] : List UInt8))
@[reducible] def p15_k3 (x0 : (List Int) × (List Int)) := (List.getD [([120] : List UInt8), ([121] : List UInt8), ([120, 121] : List UInt8), ([49] : List UInt8), ([34] : List UInt8), ([92] : List UInt8), ([123, 125] : List UInt8), ([122, 32, 122] : List UInt8)] (Int.toNat (withinI (pickG x0.2 (2)) (0) (7))) ([] : List UInt8))
@[reducible] def p15_e1  := [([120] : List UInt8), ([121] : List UInt8), ([120, 121] : List UInt8), ([49] : List UInt8), ([34] : List UInt8), ([92] : List UInt8), ([123, 125] : List UInt8), ([122, 32, 122] : List UInt8)]
@[reducible] def p15_e2  : Env := [.top, (.ptr 0 0), .top, (.sr 1 0 3 2 none), (.d (.sl .str p15_e1)), .top, .top, .top, .top, (.d (.sl .str [([97] : List UInt8), ([98] : List UInt8), ([99] : List UInt8)])), (.d (.int .i64 (3))), (.d (.int .i64 (3))), (.d (.bool false)), .top, .top, .top, .top, .top, .top, .top, .top, .top, .top, .top, .top, .top, .top, .top, .top, .top, .top, .top, .top, .top, .top, .top, .top, .top, .top, .top, .top, .top, .top, .top, .top, .top, .top, .top]
@[reducible] def p15_e3  : Env := [.top, (.ptr 0 0), .top, (.sr 1 0 2 2 none), (.d (.sl .str p15_e1)), .top, .top, .top, .top, (.d (.sl .str [([97] : List UInt8), ([98] : List UInt8), ([99] : List UInt8)])), (.d (.int .i64 (3))), (.d (.int .i64 (3))), (.d (.bool false)), .top, .top, .top, .top, .top, .top, .top, .top, .top, .top, .top, .top, .top, .top, .top, .top, .top, .top, .top, .top, .top, .top, .top, .top, .top, .top, .top, .top, .top, .top, .top, .top, .top, .top, .top]
@[reducible] def p15_e4  : Env := [.top, (.ptr 0 0), .top, (.sr 1 0 1 2 none), (.d (.sl .str p15_e1)), .top, .top, .top, .top, (.d (.sl .str [([97] : List UInt8), ([98] : List UInt8), ([99] : List UInt8)])), (.d (.int .i64 (3))), (.d (.int .i64 (3))), (.d (.bool false)), .top, .top, .top, .top, .top, .top, .top, .top, .top, .top, .top, .top, .top, .top, .top, .top, .top, .top, .top, .top, .top, .top, .top, .top, .top, .top, .top, .top, .top, .top, .top, .top, .top, .top, .top]
@[reducible] def p15_e5  : Env := [.top, (.ptr 0 0), .top, (.sr 1 0 0 2 none), (.d (.sl .str p15_e1)), .top, .top, .top, .top, (.d (.sl .str [([97] : List UInt8), ([98] : List UInt8), ([99] : List UInt8)])), (.d (.int .i64 (3))), (.d (.int .i64 (3))), (.d (.bool false)), .top, .top, .top, .top, .top, .top, .top, .top, .top, .top, .top, .top, .top, .top, .top, .top, .top, .top, .top, .top, .top, .top, .top, .top, .top, .top, .top, .top, .top, .top, .top, .top, .top, .top, .top]
@[reducible] def p15_e6  : Env := [.top, (.ptr 0 0), .top, (.sr 1 0 0 2 none), (.d (.sl .str p15_e1)), .top, .top, .top, .top, (.d (.sl .str [([97] : List UInt8), ([98] : List UInt8), ([99] : List UInt8)])), (.d (.int .i64 (3))), (.d (.int .i64 (0))), .top, .top, .top, .top, .top, .top, .top, .top, .top, .top, .top, .top, .top, .top, .top, .top, .top, .top, .top, .top, .top, .top, .top, .top, .top, .top, .top, .top, .top, .top, .top, .top, .top, .top, .top, .top]
@[reducible] def p15_e7  : Env := [.top, (.ptr 0 0), .top, (.sr 1 0 3 2 none), (.d (.sl .str p15_e1)), .top, .top, .top, .top, (.d (.sl .str [([97] : List UInt8), ([98] : List UInt8), ([99] : List UInt8)])), (.d (.int .i64 (3))), (.d (.int .i64 (3))), .top, .top, .top, .top, .top, .top, .top, .top, .top, .top, .top, .top, .top, .top, .top, .top, .top, .top, .top, .top, .top, .top, .top, .top, .top, .top, .top, .top, .top, .top, .top, .top, .top, .top, .top, .top]
@[reducible] def p15_e8  : Env := [.top, (.ptr 0 0), .top, (.sr 1 0 2 2 none), (.d (.sl .str p15_e1)), .top, .top, .top, .top, (.d (.sl .str [([97] : List UInt8), ([98] : List UInt8), ([99] : List UInt8)])), (.d (.int .i64 (3))), (.d (.int .i64 (2))), .top, .top, .top, .top, .top, .top, .top, .top, .top, .top, .top, .top, .top, .top, .top, .top, .top, .top, .top, .top, .top, .top, .top, .top, .top, .top, .top, .top, .top, .top, .top, .top, .top, .top, .top, .top]
@[reducible] def p15_e9  : Env := [.top, (.ptr 0 0), .top, (.sr 1 0 1 2 none), (.d (.sl .str p15_e1)), .top, .top, .top, .top, (.d (.sl .str [([97] : List UInt8), ([98] : List UInt8), ([99] : List UInt8)])), (.d (.int .i64 (3))), (.d (.int .i64 (1))), .top, .top, .top, .top, .top, .top, .top, .top, .top, .top, .top, .top, .top, .top, .top, .top, .top, .top, .top, .top, .top, .top, .top, .top, .top, .top, .top, .top, .top, .top, .top, .top, .top, .top, .top, .top]
@[reducible] def p15_e10  : Env := [.top, (.ptr 0 0), .top, (.sr 1 0 2 2 none), (.d (.sl .str p15_e1)), .top, .top, .top, .top, (.d (.sl .str [([97] : List UInt8), ([98] : List UInt8), ([99] : List UInt8)])), (.d (.int .i64 (3))), (.d (.int .i64 (3))), .top, .top, .top, .top, .top, .top, .top, .top, .top, .top, .top, .top, .top, .top, .top, .top, .top, .top, .top, .top, .top, .top, .top, .top, .top, .top, .top, .top, .top, .top, .top, .top, .top, .top, .top, .top]
@[reducible] def p15_e11  : Env := [.top, (.ptr 0 0), .top, (.sr 1 0 1 2 none), (.d (.sl .str p15_e1)), .top, .top, .top, .top, (.d (.sl .str [([97] : List UInt8), ([98] : List UInt8), ([99] : List UInt8)])), (.d (.int .i64 (3))), (.d (.int .i64 (2))), .top, .top, .top, .top, .top, .top, .top, .top, .top, .top, .top, .top, .top, .top, .top, .top, .top, .top, .top, .top, .top, .top, .top, .top, .top, .top, .top, .top, .top, .top, .top, .top, .top, .top, .top, .top]
@[reducible] def p15_e12  : Env := [.top, (.ptr 0 0), .top, (.sr 1 0 1 2 none), (.d (.sl .str p15_e1)), .top, .top, .top, .top, (.d (.sl .str [([97] : List UInt8), ([98] : List UInt8), ([99] : List UInt8)])), (.d (.int .i64 (3))), (.d (.int .i64 (3))), .top, .top, .top, .top, .top, .top, .top, .top, .top, .top, .top, .top, .top, .top, .top, .top, .top, .top, .top, .top, .top, .top, .top, .top, .top, .top, .top, .top, .top, .top, .top, .top, .top, .top, .top, .top]
@[reducible] def p15_e13  : Env := [.top, (.ptr 0 0), .top, (.sr 1 0 0 2 none), (.d (.sl .str p15_e1)), .top, .top, .top, .top, (.d (.sl .str [([97] : List UInt8), ([98] : List UInt8), ([99] : List UInt8)])), (.d (.int .i64 (3))), (.d (.int .i64 (1))), .top, .top, .top, .top, .top, .top, .top, .top, .top, .top, .top, .top, .top, .top, .top, .top, .top, .top, .top, .top, .top, .top, .top, .top, .top, .top, .top, .top, .top, .top, .top, .top, .top, .top, .top, .top]
@[reducible] def p15_e14  : Env := [.top, (.ptr 0 0), .top, (.sr 1 0 0 2 none), (.d (.sl .str p15_e1)), .top, .top, .top, .top, (.d (.sl .str [([97] : List UInt8), ([98] : List UInt8), ([99] : List UInt8)])), (.d (.int .i64 (3))), (.d (.int .i64 (2))), .top, .top, .top, .top, .top, .top, .top, .top, .top, .top, .top, .top, .top, .top, .top, .top, .top, .top, .top, .top, .top, .top, .top, .top, .top, .top, .top, .top, .top, .top, .top, .top, .top, .top, .top, .top]
@[reducible] def p15_e15  : Env := [.top, (.ptr 0 0), .top, (.sr 1 0 0 2 none), (.d (.sl .str p15_e1)), .top, .top, .top, .top, (.d (.sl .str [([97] : List UInt8), ([98] : List UInt8), ([99] : List UInt8)])), (.d (.int .i64 (3))), (.d (.int .i64 (3))), .top, .top, .top, .top, .top, .top, .top, .top, .top, .top, .top, .top, .top, .top, .top, .top, .top, .top, .top, .top, .top, .top, .top, .top, .top, .top, .top, .top, .top, .top, .top, .top, .top, .top, .top, .top]
set_option maxHeartbeats 20000000 in
theorem p15_ok (m : Nat) (x0 : (List Int) × (List Int)) (q : (List ((List UInt8) × (List UInt8)))) (h : p15 m x0 = some q) : ∃ r B1, (evCall F S4 (m + 25) 15 [(.agg [(.d (.sl (.int .i64) x0.1)), (.d (.sl (.int .i64) x0.2))])] []).run = some (r, B1) ∧ 0 ≤ B1.length ∧ wkR B1 [] r (.d (.sl (.pair .str .str) q)) ∧ wkBs B1 [] 0 [] := by
  unfold p15 at h
  refine ite_cases h (fun c6 h => ?_) (fun c6 h => ?_)
  · skip
    refine ite_cases h (fun c16 h => ?_) (fun c16 h => ?_)
    · skip
      refine ite_cases h (fun c17 h => ?_) (fun c17 h => ?_)
      · skip
        refine ite_cases h (fun c19 h => ?_) (fun c19 h => ?_)
        · skip
          refine ite_cases h (fun c20 h => ?_) (fun c20 h => ?_)
          · skip
            refine ite_cases h (fun c27 h => ?_) (fun c27 h => ?_)
            · skip
              refine ite_cases h (fun c37 h => ?_) (fun c37 h => ?_)
              · skip
                refine ite_cases h (fun c38 h => ?_) (fun c38 h => ?_)
                · skip
                  refine ite_cases h (fun c40 h => ?_) (fun c40 h => ?_)
                  · skip
                    refine ite_cases h (fun c41 h => ?_) (fun c41 h => ?_)
                    · skip
                      refine ite_cases h (fun c48 h => ?_) (fun c48 h => ?_)
                      · skip
                        refine ite_cases h (fun c58 h => ?_) (fun c58 h => ?_)
                        · skip
                          refine ite_cases h (fun c59 h => ?_) (fun c59 h => ?_)
                          · skip
                            refine ite_cases h (fun c61 h => ?_) (fun c61 h => ?_)
                            · skip
                              refine ite_cases h (fun c62 h => ?_) (fun c62 h => ?_)
                              · skip
                                cases h
                                refine ⟨(.d (.sl (.pair .str .str) [(([97] : List UInt8), (p15_k1 x0)), (([98] : List UInt8), (p15_k2 x0)), (([99] : List UInt8), (p15_k3 x0))])), [], runT_ok (LS := (fun k => if k = 3610 then some (.exit 0, p15_e2, [(.cells [(.d (.sl (.int .i64) x0.1)), (.d (.sl (.int .i64) x0.2))]), (.arr (.pair .str .str) [(([97] : List UInt8), (p15_k1 x0)), (([98] : List UInt8), (p15_k2 x0)), (([99] : List UInt8), (p15_k3 x0))] true)]) else none)) (fn := fn15) (vis := [(3610, p15_e6, [(.cells [(.d (.sl (.int .i64) x0.1)), (.d (.sl (.int .i64) x0.2))]), (.arr (.pair .str .str) ([] : List ((List UInt8) × (List UInt8))) true)])]) (by kernel_rfl) rfl (by kernel_rfl) (M.run_of_path _ [true, true, true, true] _ _ (by kernel_rfl) (all_t rfl (all_t rfl (all_t rfl (all_t rfl all_nil))))) ?_, by simp, (wkR.one (wkV.one (wk1.eq rfl))), trivial⟩
                                intro p hp p2 hq
                                rcases List.mem_cons.1 hp with rfl | hp
                                · skip
                                  have ht3 : (turn (hds 15 3610) 0 3610 (evC byref (evCall F S4 (m + 24)) (m + 24) 0 (hds 15) lbu15_0) p15_e7 [(.cells [(.d (.sl (.int .i64) x0.1)), (.d (.sl (.int .i64) x0.2))]), (.arr (.pair .str .str) [(([97] : List UInt8), (p15_k1 x0)), (([98] : List UInt8), (p15_k2 x0)), (([99] : List UInt8), (p15_k3 x0))] true)]).run = some (.exit 0, p15_e2, [(.cells [(.d (.sl (.int .i64) x0.1)), (.d (.sl (.int .i64) x0.2))]), (.arr (.pair .str .str) [(([97] : List UInt8), (p15_k1 x0)), (([98] : List UInt8), (p15_k2 x0)), (([99] : List UInt8), (p15_k3 x0))] true)]) := M.run_of_path _ [false] _ _ (by kernel_rfl) (all_f Bool.false_ne_true all_nil)
                                  have hp3 := turns_last (n := m + 20) (by simp) ht3
                                  have ht2 : (turn (hds 15 3610) 0 3610 (evC byref (evCall F S4 (m + 24)) (m + 24) 0 (hds 15) lbu15_0) p15_e8 [(.cells [(.d (.sl (.int .i64) x0.1)), (.d (.sl (.int .i64) x0.2))]), (.arr (.pair .str .str) [(([97] : List UInt8), (p15_k1 x0)), (([98] : List UInt8), (p15_k2 x0))] true)]).run = some (.normal, p15_e7, [(.cells [(.d (.sl (.int .i64) x0.1)), (.d (.sl (.int .i64) x0.2))]), (.arr (.pair .str .str) [(([97] : List UInt8), (p15_k1 x0)), (([98] : List UInt8), (p15_k2 x0)), (([99] : List UInt8), (p15_k3 x0))] true)]) := M.run_of_path _ [true, true, true, true, true, true, true, true, true, true, true, true, true, true, true, true, true, true, true, true, true] _ _ (by kernel_rfl) (all_t rfl (all_t rfl (all_t rfl (all_t c48 (all_t c48 (all_t c48 (all_t c48 (all_t rfl (all_t c48 (all_t c48 (all_t c48 (all_t c48 (all_t c48 (all_t c58 (all_t c59 (all_t rfl (all_t c61 (all_t c62 (all_t rfl (all_t rfl (all_t rfl all_nil)))))))))))))))))))))
                                  have hs2 : (turns (hds 15 3610) 0 3610 (evC byref (evCall F S4 (m + 24)) (m + 24) 0 (hds 15) lbu15_0) (m + 21) p15_e7 [(.cells [(.d (.sl (.int .i64) x0.1)), (.d (.sl (.int .i64) x0.2))]), (.arr (.pair .str .str) [(([97] : List UInt8), (p15_k1 x0)), (([98] : List UInt8), (p15_k2 x0)), (([99] : List UInt8), (p15_k3 x0))] true)]).run = some (.exit 0, p15_e2, [(.cells [(.d (.sl (.int .i64) x0.1)), (.d (.sl (.int .i64) x0.2))]), (.arr (.pair .str .str) [(([97] : List UInt8), (p15_k1 x0)), (([98] : List UInt8), (p15_k2 x0)), (([99] : List UInt8), (p15_k3 x0))] true)]) := Eq.mp (by kernel_rfl) hp3
                                  have hp2 := turns_step ht2 hs2
                                  have ht1 : (turn (hds 15 3610) 0 3610 (evC byref (evCall F S4 (m + 24)) (m + 24) 0 (hds 15) lbu15_0) p15_e9 [(.cells [(.d (.sl (.int .i64) x0.1)), (.d (.sl (.int .i64) x0.2))]), (.arr (.pair .str .str) [(([97] : List UInt8), (p15_k1 x0))] true)]).run = some (.normal, p15_e8, [(.cells [(.d (.sl (.int .i64) x0.1)), (.d (.sl (.int .i64) x0.2))]), (.arr (.pair .str .str) [(([97] : List UInt8), (p15_k1 x0)), (([98] : List UInt8), (p15_k2 x0))] true)]) := M.run_of_path _ [true, true, true, true, true, true, true, true, true, true, true, true, true, true, true, true, true, true, true, true, true] _ _ (by kernel_rfl) (all_t rfl (all_t rfl (all_t rfl (all_t c27 (all_t c27 (all_t c27 (all_t c27 (all_t rfl (all_t c27 (all_t c27 (all_t c27 (all_t c27 (all_t c27 (all_t c37 (all_t c38 (all_t rfl (all_t c40 (all_t c41 (all_t rfl (all_t rfl (all_t rfl all_nil)))))))))))))))))))))
                                  have hs1 : (turns (hds 15 3610) 0 3610 (evC byref (evCall F S4 (m + 24)) (m + 24) 0 (hds 15) lbu15_0) (m + 22) p15_e8 [(.cells [(.d (.sl (.int .i64) x0.1)), (.d (.sl (.int .i64) x0.2))]), (.arr (.pair .str .str) [(([97] : List UInt8), (p15_k1 x0)), (([98] : List UInt8), (p15_k2 x0))] true)]).run = some (.exit 0, p15_e2, [(.cells [(.d (.sl (.int .i64) x0.1)), (.d (.sl (.int .i64) x0.2))]), (.arr (.pair .str .str) [(([97] : List UInt8), (p15_k1 x0)), (([98] : List UInt8), (p15_k2 x0)), (([99] : List UInt8), (p15_k3 x0))] true)]) := Eq.mp (by kernel_rfl) hp2
                                  have hp1 := turns_step ht1 hs1
                                  have ht0 : (turn (hds 15 3610) 0 3610 (evC byref (evCall F S4 (m + 24)) (m + 24) 0 (hds 15) lbu15_0) p15_e6 [(.cells [(.d (.sl (.int .i64) x0.1)), (.d (.sl (.int .i64) x0.2))]), (.arr (.pair .str .str) ([] : List ((List UInt8) × (List UInt8))) true)]).run = some (.normal, p15_e9, [(.cells [(.d (.sl (.int .i64) x0.1)), (.d (.sl (.int .i64) x0.2))]), (.arr (.pair .str .str) [(([97] : List UInt8), (p15_k1 x0))] true)]) := M.run_of_path _ [true, true, true, true, true, true, true, true, true, true, true, true, true, true, true, true, true, true, true, true, true] _ _ (by kernel_rfl) (all_t rfl (all_t rfl (all_t rfl (all_t c6 (all_t c6 (all_t c6 (all_t c6 (all_t rfl (all_t c6 (all_t c6 (all_t c6 (all_t c6 (all_t c6 (all_t c16 (all_t c17 (all_t rfl (all_t c19 (all_t c20 (all_t rfl (all_t rfl (all_t rfl all_nil)))))))))))))))))))))
                                  have hs0 : (turns (hds 15 3610) 0 3610 (evC byref (evCall F S4 (m + 24)) (m + 24) 0 (hds 15) lbu15_0) (m + 23) p15_e9 [(.cells [(.d (.sl (.int .i64) x0.1)), (.d (.sl (.int .i64) x0.2))]), (.arr (.pair .str .str) [(([97] : List UInt8), (p15_k1 x0))] true)]).run = some (.exit 0, p15_e2, [(.cells [(.d (.sl (.int .i64) x0.1)), (.d (.sl (.int .i64) x0.2))]), (.arr (.pair .str .str) [(([97] : List UInt8), (p15_k1 x0)), (([98] : List UInt8), (p15_k2 x0)), (([99] : List UInt8), (p15_k3 x0))] true)]) := Eq.mp (by kernel_rfl) hp1
                                  have hp0 := turns_step ht0 hs0
                                  exact Eq.trans (Eq.mp (by kernel_rfl) hp0) hq
                                cases hp
                              · skip
                                cases h
                            · skip
                              cases h
                          · skip
                            cases h
                        · skip
                          cases h
                          refine ⟨(.d (.sl (.pair .str .str) [(([97] : List UInt8), (p15_k1 x0)), (([98] : List UInt8), (p15_k2 x0))])), [], runT_ok (LS := (fun k => if k = 3610 then some (.exit 0, p15_e3, [(.cells [(.d (.sl (.int .i64) x0.1)), (.d (.sl (.int .i64) x0.2))]), (.arr (.pair .str .str) [(([97] : List UInt8), (p15_k1 x0)), (([98] : List UInt8), (p15_k2 x0))] true)]) else none)) (fn := fn15) (vis := [(3610, p15_e6, [(.cells [(.d (.sl (.int .i64) x0.1)), (.d (.sl (.int .i64) x0.2))]), (.arr (.pair .str .str) ([] : List ((List UInt8) × (List UInt8))) true)])]) (by kernel_rfl) rfl (by kernel_rfl) (M.run_of_path _ [true, true, true, true] _ _ (by kernel_rfl) (all_t rfl (all_t rfl (all_t rfl (all_t rfl all_nil))))) ?_, by simp, (wkR.one (wkV.one (wk1.eq rfl))), trivial⟩
                          intro p hp p2 hq
                          rcases List.mem_cons.1 hp with rfl | hp
                          · skip
                            have ht3 : (turn (hds 15 3610) 0 3610 (evC byref (evCall F S4 (m + 24)) (m + 24) 0 (hds 15) lbu15_0) p15_e10 [(.cells [(.d (.sl (.int .i64) x0.1)), (.d (.sl (.int .i64) x0.2))]), (.arr (.pair .str .str) [(([97] : List UInt8), (p15_k1 x0)), (([98] : List UInt8), (p15_k2 x0))] true)]).run = some (.exit 0, p15_e3, [(.cells [(.d (.sl (.int .i64) x0.1)), (.d (.sl (.int .i64) x0.2))]), (.arr (.pair .str .str) [(([97] : List UInt8), (p15_k1 x0)), (([98] : List UInt8), (p15_k2 x0))] true)]) := M.run_of_path _ [false] _ _ (by kernel_rfl) (all_f Bool.false_ne_true all_nil)
                            have hp3 := turns_last (n := m + 20) (by simp) ht3
                            have ht2 : (turn (hds 15 3610) 0 3610 (evC byref (evCall F S4 (m + 24)) (m + 24) 0 (hds 15) lbu15_0) p15_e8 [(.cells [(.d (.sl (.int .i64) x0.1)), (.d (.sl (.int .i64) x0.2))]), (.arr (.pair .str .str) [(([97] : List UInt8), (p15_k1 x0)), (([98] : List UInt8), (p15_k2 x0))] true)]).run = some (.normal, p15_e10, [(.cells [(.d (.sl (.int .i64) x0.1)), (.d (.sl (.int .i64) x0.2))]), (.arr (.pair .str .str) [(([97] : List UInt8), (p15_k1 x0)), (([98] : List UInt8), (p15_k2 x0))] true)]) := M.run_of_path _ [true, true, true, true, true, true, true, true, true, true, true, true, true, false] _ _ (by kernel_rfl) (all_t rfl (all_t rfl (all_t rfl (all_t c48 (all_t c48 (all_t c48 (all_t c48 (all_t rfl (all_t c48 (all_t c48 (all_t c48 (all_t c48 (all_t c48 (all_f c58 all_nil))))))))))))))
                            have hs2 : (turns (hds 15 3610) 0 3610 (evC byref (evCall F S4 (m + 24)) (m + 24) 0 (hds 15) lbu15_0) (m + 21) p15_e10 [(.cells [(.d (.sl (.int .i64) x0.1)), (.d (.sl (.int .i64) x0.2))]), (.arr (.pair .str .str) [(([97] : List UInt8), (p15_k1 x0)), (([98] : List UInt8), (p15_k2 x0))] true)]).run = some (.exit 0, p15_e3, [(.cells [(.d (.sl (.int .i64) x0.1)), (.d (.sl (.int .i64) x0.2))]), (.arr (.pair .str .str) [(([97] : List UInt8), (p15_k1 x0)), (([98] : List UInt8), (p15_k2 x0))] true)]) := Eq.mp (by kernel_rfl) hp3
                            have hp2 := turns_step ht2 hs2
                            have ht1 : (turn (hds 15 3610) 0 3610 (evC byref (evCall F S4 (m + 24)) (m + 24) 0 (hds 15) lbu15_0) p15_e9 [(.cells [(.d (.sl (.int .i64) x0.1)), (.d (.sl (.int .i64) x0.2))]), (.arr (.pair .str .str) [(([97] : List UInt8), (p15_k1 x0))] true)]).run = some (.normal, p15_e8, [(.cells [(.d (.sl (.int .i64) x0.1)), (.d (.sl (.int .i64) x0.2))]), (.arr (.pair .str .str) [(([97] : List UInt8), (p15_k1 x0)), (([98] : List UInt8), (p15_k2 x0))] true)]) := M.run_of_path _ [true, true, true, true, true, true, true, true, true, true, true, true, true, true, true, true, true, true, true, true, true] _ _ (by kernel_rfl) (all_t rfl (all_t rfl (all_t rfl (all_t c27 (all_t c27 (all_t c27 (all_t c27 (all_t rfl (all_t c27 (all_t c27 (all_t c27 (all_t c27 (all_t c27 (all_t c37 (all_t c38 (all_t rfl (all_t c40 (all_t c41 (all_t rfl (all_t rfl (all_t rfl all_nil)))))))))))))))))))))
                            have hs1 : (turns (hds 15 3610) 0 3610 (evC byref (evCall F S4 (m + 24)) (m + 24) 0 (hds 15) lbu15_0) (m + 22) p15_e8 [(.cells [(.d (.sl (.int .i64) x0.1)), (.d (.sl (.int .i64) x0.2))]), (.arr (.pair .str .str) [(([97] : List UInt8), (p15_k1 x0)), (([98] : List UInt8), (p15_k2 x0))] true)]).run = some (.exit 0, p15_e3, [(.cells [(.d (.sl (.int .i64) x0.1)), (.d (.sl (.int .i64) x0.2))]), (.arr (.pair .str .str) [(([97] : List UInt8), (p15_k1 x0)), (([98] : List UInt8), (p15_k2 x0))] true)]) := Eq.mp (by kernel_rfl) hp2
                            have hp1 := turns_step ht1 hs1
                            have ht0 : (turn (hds 15 3610) 0 3610 (evC byref (evCall F S4 (m + 24)) (m + 24) 0 (hds 15) lbu15_0) p15_e6 [(.cells [(.d (.sl (.int .i64) x0.1)), (.d (.sl (.int .i64) x0.2))]), (.arr (.pair .str .str) ([] : List ((List UInt8) × (List UInt8))) true)]).run = some (.normal, p15_e9, [(.cells [(.d (.sl (.int .i64) x0.1)), (.d (.sl (.int .i64) x0.2))]), (.arr (.pair .str .str) [(([97] : List UInt8), (p15_k1 x0))] true)]) := M.run_of_path _ [true, true, true, true, true, true, true, true, true, true, true, true, true, true, true, true, true, true, true, true, true] _ _ (by kernel_rfl) (all_t rfl (all_t rfl (all_t rfl (all_t c6 (all_t c6 (all_t c6 (all_t c6 (all_t rfl (all_t c6 (all_t c6 (all_t c6 (all_t c6 (all_t c6 (all_t c16 (all_t c17 (all_t rfl (all_t c19 (all_t c20 (all_t rfl (all_t rfl (all_t rfl all_nil)))))))))))))))))))))
                            have hs0 : (turns (hds 15 3610) 0 3610 (evC byref (evCall F S4 (m + 24)) (m + 24) 0 (hds 15) lbu15_0) (m + 23) p15_e9 [(.cells [(.d (.sl (.int .i64) x0.1)), (.d (.sl (.int .i64) x0.2))]), (.arr (.pair .str .str) [(([97] : List UInt8), (p15_k1 x0))] true)]).run = some (.exit 0, p15_e3, [(.cells [(.d (.sl (.int .i64) x0.1)), (.d (.sl (.int .i64) x0.2))]), (.arr (.pair .str .str) [(([97] : List UInt8), (p15_k1 x0)), (([98] : List UInt8), (p15_k2 x0))] true)]) := Eq.mp (by kernel_rfl) hp1
                            have hp0 := turns_step ht0 hs0
                            exact Eq.trans (Eq.mp (by kernel_rfl) hp0) hq
                          cases hp
                      · skip
                        cases h
                        refine ⟨(.d (.sl (.pair .str .str) [(([97] : List UInt8), (p15_k1 x0)), (([98] : List UInt8), (p15_k2 x0))])), [], runT_ok (LS := (fun k => if k = 3610 then some (.exit 0, p15_e3, [(.cells [(.d (.sl (.int .i64) x0.1)), (.d (.sl (.int .i64) x0.2))]), (.arr (.pair .str .str) [(([97] : List UInt8), (p15_k1 x0)), (([98] : List UInt8), (p15_k2 x0))] true)]) else none)) (fn := fn15) (vis := [(3610, p15_e6, [(.cells [(.d (.sl (.int .i64) x0.1)), (.d (.sl (.int .i64) x0.2))]), (.arr (.pair .str .str) ([] : List ((List UInt8) × (List UInt8))) true)])]) (by kernel_rfl) rfl (by kernel_rfl) (M.run_of_path _ [true, true, true, true] _ _ (by kernel_rfl) (all_t rfl (all_t rfl (all_t rfl (all_t rfl all_nil))))) ?_, by simp, (wkR.one (wkV.one (wk1.eq rfl))), trivial⟩
                        intro p hp p2 hq
                        rcases List.mem_cons.1 hp with rfl | hp
                        · skip
                          have ht3 : (turn (hds 15 3610) 0 3610 (evC byref (evCall F S4 (m + 24)) (m + 24) 0 (hds 15) lbu15_0) p15_e10 [(.cells [(.d (.sl (.int .i64) x0.1)), (.d (.sl (.int .i64) x0.2))]), (.arr (.pair .str .str) [(([97] : List UInt8), (p15_k1 x0)), (([98] : List UInt8), (p15_k2 x0))] true)]).run = some (.exit 0, p15_e3, [(.cells [(.d (.sl (.int .i64) x0.1)), (.d (.sl (.int .i64) x0.2))]), (.arr (.pair .str .str) [(([97] : List UInt8), (p15_k1 x0)), (([98] : List UInt8), (p15_k2 x0))] true)]) := M.run_of_path _ [false] _ _ (by kernel_rfl) (all_f Bool.false_ne_true all_nil)
                          have hp3 := turns_last (n := m + 20) (by simp) ht3
                          have ht2 : (turn (hds 15 3610) 0 3610 (evC byref (evCall F S4 (m + 24)) (m + 24) 0 (hds 15) lbu15_0) p15_e8 [(.cells [(.d (.sl (.int .i64) x0.1)), (.d (.sl (.int .i64) x0.2))]), (.arr (.pair .str .str) [(([97] : List UInt8), (p15_k1 x0)), (([98] : List UInt8), (p15_k2 x0))] true)]).run = some (.normal, p15_e10, [(.cells [(.d (.sl (.int .i64) x0.1)), (.d (.sl (.int .i64) x0.2))]), (.arr (.pair .str .str) [(([97] : List UInt8), (p15_k1 x0)), (([98] : List UInt8), (p15_k2 x0))] true)]) := M.run_of_path _ [true, true, true, false, false, false, false, false, false, false, false, false] _ _ (by kernel_rfl) (all_t rfl (all_t rfl (all_t rfl (all_f c48 (all_f c48 (all_f c48 (all_f c48 (all_f c48 (all_f c48 (all_f c48 (all_f c48 (all_f Bool.false_ne_true all_nil))))))))))))
                          have hs2 : (turns (hds 15 3610) 0 3610 (evC byref (evCall F S4 (m + 24)) (m + 24) 0 (hds 15) lbu15_0) (m + 21) p15_e10 [(.cells [(.d (.sl (.int .i64) x0.1)), (.d (.sl (.int .i64) x0.2))]), (.arr (.pair .str .str) [(([97] : List UInt8), (p15_k1 x0)), (([98] : List UInt8), (p15_k2 x0))] true)]).run = some (.exit 0, p15_e3, [(.cells [(.d (.sl (.int .i64) x0.1)), (.d (.sl (.int .i64) x0.2))]), (.arr (.pair .str .str) [(([97] : List UInt8), (p15_k1 x0)), (([98] : List UInt8), (p15_k2 x0))] true)]) := Eq.mp (by kernel_rfl) hp3
                          have hp2 := turns_step ht2 hs2
                          have ht1 : (turn (hds 15 3610) 0 3610 (evC byref (evCall F S4 (m + 24)) (m + 24) 0 (hds 15) lbu15_0) p15_e9 [(.cells [(.d (.sl (.int .i64) x0.1)), (.d (.sl (.int .i64) x0.2))]), (.arr (.pair .str .str) [(([97] : List UInt8), (p15_k1 x0))] true)]).run = some (.normal, p15_e8, [(.cells [(.d (.sl (.int .i64) x0.1)), (.d (.sl (.int .i64) x0.2))]), (.arr (.pair .str .str) [(([97] : List UInt8), (p15_k1 x0)), (([98] : List UInt8), (p15_k2 x0))] true)]) := M.run_of_path _ [true, true, true, true, true, true, true, true, true, true, true, true, true, true, true, true, true, true, true, true, true] _ _ (by kernel_rfl) (all_t rfl (all_t rfl (all_t rfl (all_t c27 (all_t c27 (all_t c27 (all_t c27 (all_t rfl (all_t c27 (all_t c27 (all_t c27 (all_t c27 (all_t c27 (all_t c37 (all_t c38 (all_t rfl (all_t c40 (all_t c41 (all_t rfl (all_t rfl (all_t rfl all_nil)))))))))))))))))))))
                          have hs1 : (turns (hds 15 3610) 0 3610 (evC byref (evCall F S4 (m + 24)) (m + 24) 0 (hds 15) lbu15_0) (m + 22) p15_e8 [(.cells [(.d (.sl (.int .i64) x0.1)), (.d (.sl (.int .i64) x0.2))]), (.arr (.pair .str .str) [(([97] : List UInt8), (p15_k1 x0)), (([98] : List UInt8), (p15_k2 x0))] true)]).run = some (.exit 0, p15_e3, [(.cells [(.d (.sl (.int .i64) x0.1)), (.d (.sl (.int .i64) x0.2))]), (.arr (.pair .str .str) [(([97] : List UInt8), (p15_k1 x0)), (([98] : List UInt8), (p15_k2 x0))] true)]) := Eq.mp (by kernel_rfl) hp2
                          have hp1 := turns_step ht1 hs1
                          have ht0 : (turn (hds 15 3610) 0 3610 (evC byref (evCall F S4 (m + 24)) (m + 24) 0 (hds 15) lbu15_0) p15_e6 [(.cells [(.d (.sl (.int .i64) x0.1)), (.d (.sl (.int .i64) x0.2))]), (.arr (.pair .str .str) ([] : List ((List UInt8) × (List UInt8))) true)]).run = some (.normal, p15_e9, [(.cells [(.d (.sl (.int .i64) x0.1)), (.d (.sl (.int .i64) x0.2))]), (.arr (.pair .str .str) [(([97] : List UInt8), (p15_k1 x0))] true)]) := M.run_of_path _ [true, true, true, true, true, true, true, true, true, true, true, true, true, true, true, true, true, true, true, true, true] _ _ (by kernel_rfl) (all_t rfl (all_t rfl (all_t rfl (all_t c6 (all_t c6 (all_t c6 (all_t c6 (all_t rfl (all_t c6 (all_t c6 (all_t c6 (all_t c6 (all_t c6 (all_t c16 (all_t c17 (all_t rfl (all_t c19 (all_t c20 (all_t rfl (all_t rfl (all_t rfl all_nil)))))))))))))))))))))
                          have hs0 : (turns (hds 15 3610) 0 3610 (evC byref (evCall F S4 (m + 24)) (m + 24) 0 (hds 15) lbu15_0) (m + 23) p15_e9 [(.cells [(.d (.sl (.int .i64) x0.1)), (.d (.sl (.int .i64) x0.2))]), (.arr (.pair .str .str) [(([97] : List UInt8), (p15_k1 x0))] true)]).run = some (.exit 0, p15_e3, [(.cells [(.d (.sl (.int .i64) x0.1)), (.d (.sl (.int .i64) x0.2))]), (.arr (.pair .str .str) [(([97] : List UInt8), (p15_k1 x0)), (([98] : List UInt8), (p15_k2 x0))] true)]) := Eq.mp (by kernel_rfl) hp1
                          have hp0 := turns_step ht0 hs0
                          exact Eq.trans (Eq.mp (by kernel_rfl) hp0) hq
                        cases hp
                    · skip
                      cases h
                  · skip
                    cases h
                · skip
                  cases h
              · skip
                refine ite_cases h (fun c41 h => ?_) (fun c41 h => ?_)
                · skip
                  refine ite_cases h (fun c51 h => ?_) (fun c51 h => ?_)
                  · skip
                    refine ite_cases h (fun c52 h => ?_) (fun c52 h => ?_)
                    · skip
                      refine ite_cases h (fun c54 h => ?_) (fun c54 h => ?_)
                      · skip
                        refine ite_cases h (fun c55 h => ?_) (fun c55 h => ?_)
                        · skip
                          cases h
                          refine ⟨(.d (.sl (.pair .str .str) [(([97] : List UInt8), (p15_k1 x0)), (([99] : List UInt8), (p15_k3 x0))])), [], runT_ok (LS := (fun k => if k = 3610 then some (.exit 0, p15_e3, [(.cells [(.d (.sl (.int .i64) x0.1)), (.d (.sl (.int .i64) x0.2))]), (.arr (.pair .str .str) [(([97] : List UInt8), (p15_k1 x0)), (([99] : List UInt8), (p15_k3 x0))] true)]) else none)) (fn := fn15) (vis := [(3610, p15_e6, [(.cells [(.d (.sl (.int .i64) x0.1)), (.d (.sl (.int .i64) x0.2))]), (.arr (.pair .str .str) ([] : List ((List UInt8) × (List UInt8))) true)])]) (by kernel_rfl) rfl (by kernel_rfl) (M.run_of_path _ [true, true, true, true] _ _ (by kernel_rfl) (all_t rfl (all_t rfl (all_t rfl (all_t rfl all_nil))))) ?_, by simp, (wkR.one (wkV.one (wk1.eq rfl))), trivial⟩
                          intro p hp p2 hq
                          rcases List.mem_cons.1 hp with rfl | hp
                          · skip
                            have ht3 : (turn (hds 15 3610) 0 3610 (evC byref (evCall F S4 (m + 24)) (m + 24) 0 (hds 15) lbu15_0) p15_e10 [(.cells [(.d (.sl (.int .i64) x0.1)), (.d (.sl (.int .i64) x0.2))]), (.arr (.pair .str .str) [(([97] : List UInt8), (p15_k1 x0)), (([99] : List UInt8), (p15_k3 x0))] true)]).run = some (.exit 0, p15_e3, [(.cells [(.d (.sl (.int .i64) x0.1)), (.d (.sl (.int .i64) x0.2))]), (.arr (.pair .str .str) [(([97] : List UInt8), (p15_k1 x0)), (([99] : List UInt8), (p15_k3 x0))] true)]) := M.run_of_path _ [false] _ _ (by kernel_rfl) (all_f Bool.false_ne_true all_nil)
                            have hp3 := turns_last (n := m + 20) (by simp) ht3
                            have ht2 : (turn (hds 15 3610) 0 3610 (evC byref (evCall F S4 (m + 24)) (m + 24) 0 (hds 15) lbu15_0) p15_e11 [(.cells [(.d (.sl (.int .i64) x0.1)), (.d (.sl (.int .i64) x0.2))]), (.arr (.pair .str .str) [(([97] : List UInt8), (p15_k1 x0))] true)]).run = some (.normal, p15_e10, [(.cells [(.d (.sl (.int .i64) x0.1)), (.d (.sl (.int .i64) x0.2))]), (.arr (.pair .str .str) [(([97] : List UInt8), (p15_k1 x0)), (([99] : List UInt8), (p15_k3 x0))] true)]) := M.run_of_path _ [true, true, true, true, true, true, true, true, true, true, true, true, true, true, true, true, true, true, true, true, true] _ _ (by kernel_rfl) (all_t rfl (all_t rfl (all_t rfl (all_t c41 (all_t c41 (all_t c41 (all_t c41 (all_t rfl (all_t c41 (all_t c41 (all_t c41 (all_t c41 (all_t c41 (all_t c51 (all_t c52 (all_t rfl (all_t c54 (all_t c55 (all_t rfl (all_t rfl (all_t rfl all_nil)))))))))))))))))))))
                            have hs2 : (turns (hds 15 3610) 0 3610 (evC byref (evCall F S4 (m + 24)) (m + 24) 0 (hds 15) lbu15_0) (m + 21) p15_e10 [(.cells [(.d (.sl (.int .i64) x0.1)), (.d (.sl (.int .i64) x0.2))]), (.arr (.pair .str .str) [(([97] : List UInt8), (p15_k1 x0)), (([99] : List UInt8), (p15_k3 x0))] true)]).run = some (.exit 0, p15_e3, [(.cells [(.d (.sl (.int .i64) x0.1)), (.d (.sl (.int .i64) x0.2))]), (.arr (.pair .str .str) [(([97] : List UInt8), (p15_k1 x0)), (([99] : List UInt8), (p15_k3 x0))] true)]) := Eq.mp (by kernel_rfl) hp3
                            have hp2 := turns_step ht2 hs2
                            have ht1 : (turn (hds 15 3610) 0 3610 (evC byref (evCall F S4 (m + 24)) (m + 24) 0 (hds 15) lbu15_0) p15_e9 [(.cells [(.d (.sl (.int .i64) x0.1)), (.d (.sl (.int .i64) x0.2))]), (.arr (.pair .str .str) [(([97] : List UInt8), (p15_k1 x0))] true)]).run = some (.normal, p15_e11, [(.cells [(.d (.sl (.int .i64) x0.1)), (.d (.sl (.int .i64) x0.2))]), (.arr (.pair .str .str) [(([97] : List UInt8), (p15_k1 x0))] true)]) := M.run_of_path _ [true, true, true, true, true, true, true, true, true, true, true, true, true, false] _ _ (by kernel_rfl) (all_t rfl (all_t rfl (all_t rfl (all_t c27 (all_t c27 (all_t c27 (all_t c27 (all_t rfl (all_t c27 (all_t c27 (all_t c27 (all_t c27 (all_t c27 (all_f c37 all_nil))))))))))))))
                            have hs1 : (turns (hds 15 3610) 0 3610 (evC byref (evCall F S4 (m + 24)) (m + 24) 0 (hds 15) lbu15_0) (m + 22) p15_e11 [(.cells [(.d (.sl (.int .i64) x0.1)), (.d (.sl (.int .i64) x0.2))]), (.arr (.pair .str .str) [(([97] : List UInt8), (p15_k1 x0))] true)]).run = some (.exit 0, p15_e3, [(.cells [(.d (.sl (.int .i64) x0.1)), (.d (.sl (.int .i64) x0.2))]), (.arr (.pair .str .str) [(([97] : List UInt8), (p15_k1 x0)), (([99] : List UInt8), (p15_k3 x0))] true)]) := Eq.mp (by kernel_rfl) hp2
                            have hp1 := turns_step ht1 hs1
                            have ht0 : (turn (hds 15 3610) 0 3610 (evC byref (evCall F S4 (m + 24)) (m + 24) 0 (hds 15) lbu15_0) p15_e6 [(.cells [(.d (.sl (.int .i64) x0.1)), (.d (.sl (.int .i64) x0.2))]), (.arr (.pair .str .str) ([] : List ((List UInt8) × (List UInt8))) true)]).run = some (.normal, p15_e9, [(.cells [(.d (.sl (.int .i64) x0.1)), (.d (.sl (.int .i64) x0.2))]), (.arr (.pair .str .str) [(([97] : List UInt8), (p15_k1 x0))] true)]) := M.run_of_path _ [true, true, true, true, true, true, true, true, true, true, true, true, true, true, true, true, true, true, true, true, true] _ _ (by kernel_rfl) (all_t rfl (all_t rfl (all_t rfl (all_t c6 (all_t c6 (all_t c6 (all_t c6 (all_t rfl (all_t c6 (all_t c6 (all_t c6 (all_t c6 (all_t c6 (all_t c16 (all_t c17 (all_t rfl (all_t c19 (all_t c20 (all_t rfl (all_t rfl (all_t rfl all_nil)))))))))))))))))))))
                            have hs0 : (turns (hds 15 3610) 0 3610 (evC byref (evCall F S4 (m + 24)) (m + 24) 0 (hds 15) lbu15_0) (m + 23) p15_e9 [(.cells [(.d (.sl (.int .i64) x0.1)), (.d (.sl (.int .i64) x0.2))]), (.arr (.pair .str .str) [(([97] : List UInt8), (p15_k1 x0))] true)]).run = some (.exit 0, p15_e3, [(.cells [(.d (.sl (.int .i64) x0.1)), (.d (.sl (.int .i64) x0.2))]), (.arr (.pair .str .str) [(([97] : List UInt8), (p15_k1 x0)), (([99] : List UInt8), (p15_k3 x0))] true)]) := Eq.mp (by kernel_rfl) hp1
                            have hp0 := turns_step ht0 hs0
                            exact Eq.trans (Eq.mp (by kernel_rfl) hp0) hq
                          cases hp
                        · skip
                          cases h
                      · skip
                        cases h
                    · skip
                      cases h
                  · skip
                    cases h
                    refine ⟨(.d (.sl (.pair .str .str) [(([97] : List UInt8), (p15_k1 x0))])), [], runT_ok (LS := (fun k => if k = 3610 then some (.exit 0, p15_e4, [(.cells [(.d (.sl (.int .i64) x0.1)), (.d (.sl (.int .i64) x0.2))]), (.arr (.pair .str .str) [(([97] : List UInt8), (p15_k1 x0))] true)]) else none)) (fn := fn15) (vis := [(3610, p15_e6, [(.cells [(.d (.sl (.int .i64) x0.1)), (.d (.sl (.int .i64) x0.2))]), (.arr (.pair .str .str) ([] : List ((List UInt8) × (List UInt8))) true)])]) (by kernel_rfl) rfl (by kernel_rfl) (M.run_of_path _ [true, true, true, true] _ _ (by kernel_rfl) (all_t rfl (all_t rfl (all_t rfl (all_t rfl all_nil))))) ?_, by simp, (wkR.one (wkV.one (wk1.eq rfl))), trivial⟩
                    intro p hp p2 hq
                    rcases List.mem_cons.1 hp with rfl | hp
                    · skip
                      have ht3 : (turn (hds 15 3610) 0 3610 (evC byref (evCall F S4 (m + 24)) (m + 24) 0 (hds 15) lbu15_0) p15_e12 [(.cells [(.d (.sl (.int .i64) x0.1)), (.d (.sl (.int .i64) x0.2))]), (.arr (.pair .str .str) [(([97] : List UInt8), (p15_k1 x0))] true)]).run = some (.exit 0, p15_e4, [(.cells [(.d (.sl (.int .i64) x0.1)), (.d (.sl (.int .i64) x0.2))]), (.arr (.pair .str .str) [(([97] : List UInt8), (p15_k1 x0))] true)]) := M.run_of_path _ [false] _ _ (by kernel_rfl) (all_f Bool.false_ne_true all_nil)
                      have hp3 := turns_last (n := m + 20) (by simp) ht3
                      have ht2 : (turn (hds 15 3610) 0 3610 (evC byref (evCall F S4 (m + 24)) (m + 24) 0 (hds 15) lbu15_0) p15_e11 [(.cells [(.d (.sl (.int .i64) x0.1)), (.d (.sl (.int .i64) x0.2))]), (.arr (.pair .str .str) [(([97] : List UInt8), (p15_k1 x0))] true)]).run = some (.normal, p15_e12, [(.cells [(.d (.sl (.int .i64) x0.1)), (.d (.sl (.int .i64) x0.2))]), (.arr (.pair .str .str) [(([97] : List UInt8), (p15_k1 x0))] true)]) := M.run_of_path _ [true, true, true, true, true, true, true, true, true, true, true, true, true, false] _ _ (by kernel_rfl) (all_t rfl (all_t rfl (all_t rfl (all_t c41 (all_t c41 (all_t c41 (all_t c41 (all_t rfl (all_t c41 (all_t c41 (all_t c41 (all_t c41 (all_t c41 (all_f c51 all_nil))))))))))))))
                      have hs2 : (turns (hds 15 3610) 0 3610 (evC byref (evCall F S4 (m + 24)) (m + 24) 0 (hds 15) lbu15_0) (m + 21) p15_e12 [(.cells [(.d (.sl (.int .i64) x0.1)), (.d (.sl (.int .i64) x0.2))]), (.arr (.pair .str .str) [(([97] : List UInt8), (p15_k1 x0))] true)]).run = some (.exit 0, p15_e4, [(.cells [(.d (.sl (.int .i64) x0.1)), (.d (.sl (.int .i64) x0.2))]), (.arr (.pair .str .str) [(([97] : List UInt8), (p15_k1 x0))] true)]) := Eq.mp (by kernel_rfl) hp3
                      have hp2 := turns_step ht2 hs2
                      have ht1 : (turn (hds 15 3610) 0 3610 (evC byref (evCall F S4 (m + 24)) (m + 24) 0 (hds 15) lbu15_0) p15_e9 [(.cells [(.d (.sl (.int .i64) x0.1)), (.d (.sl (.int .i64) x0.2))]), (.arr (.pair .str .str) [(([97] : List UInt8), (p15_k1 x0))] true)]).run = some (.normal, p15_e11, [(.cells [(.d (.sl (.int .i64) x0.1)), (.d (.sl (.int .i64) x0.2))]), (.arr (.pair .str .str) [(([97] : List UInt8), (p15_k1 x0))] true)]) := M.run_of_path _ [true, true, true, true, true, true, true, true, true, true, true, true, true, false] _ _ (by kernel_rfl) (all_t rfl (all_t rfl (all_t rfl (all_t c27 (all_t c27 (all_t c27 (all_t c27 (all_t rfl (all_t c27 (all_t c27 (all_t c27 (all_t c27 (all_t c27 (all_f c37 all_nil))))))))))))))
                      have hs1 : (turns (hds 15 3610) 0 3610 (evC byref (evCall F S4 (m + 24)) (m + 24) 0 (hds 15) lbu15_0) (m + 22) p15_e11 [(.cells [(.d (.sl (.int .i64) x0.1)), (.d (.sl (.int .i64) x0.2))]), (.arr (.pair .str .str) [(([97] : List UInt8), (p15_k1 x0))] true)]).run = some (.exit 0, p15_e4, [(.cells [(.d (.sl (.int .i64) x0.1)), (.d (.sl (.int .i64) x0.2))]), (.arr (.pair .str .str) [(([97] : List UInt8), (p15_k1 x0))] true)]) := Eq.mp (by kernel_rfl) hp2
                      have hp1 := turns_step ht1 hs1
                      have ht0 : (turn (hds 15 3610) 0 3610 (evC byref (evCall F S4 (m + 24)) (m + 24) 0 (hds 15) lbu15_0) p15_e6 [(.cells [(.d (.sl (.int .i64) x0.1)), (.d (.sl (.int .i64) x0.2))]), (.arr (.pair .str .str) ([] : List ((List UInt8) × (List UInt8))) true)]).run = some (.normal, p15_e9, [(.cells [(.d (.sl (.int .i64) x0.1)), (.d (.sl (.int .i64) x0.2))]), (.arr (.pair .str .str) [(([97] : List UInt8), (p15_k1 x0))] true)]) := M.run_of_path _ [true, true, true, true, true, true, true, true, true, true, true, true, true, true, true, true, true, true, true, true, true] _ _ (by kernel_rfl) (all_t rfl (all_t rfl (all_t rfl (all_t c6 (all_t c6 (all_t c6 (all_t c6 (all_t rfl (all_t c6 (all_t c6 (all_t c6 (all_t c6 (all_t c6 (all_t c16 (all_t c17 (all_t rfl (all_t c19 (all_t c20 (all_t rfl (all_t rfl (all_t rfl all_nil)))))))))))))))))))))
                      have hs0 : (turns (hds 15 3610) 0 3610 (evC byref (evCall F S4 (m + 24)) (m + 24) 0 (hds 15) lbu15_0) (m + 23) p15_e9 [(.cells [(.d (.sl (.int .i64) x0.1)), (.d (.sl (.int .i64) x0.2))]), (.arr (.pair .str .str) [(([97] : List UInt8), (p15_k1 x0))] true)]).run = some (.exit 0, p15_e4, [(.cells [(.d (.sl (.int .i64) x0.1)), (.d (.sl (.int .i64) x0.2))]), (.arr (.pair .str .str) [(([97] : List UInt8), (p15_k1 x0))] true)]) := Eq.mp (by kernel_rfl) hp1
                      have hp0 := turns_step ht0 hs0
                      exact Eq.trans (Eq.mp (by kernel_rfl) hp0) hq
                    cases hp
                · skip
                  cases h
                  refine ⟨(.d (.sl (.pair .str .str) [(([97] : List UInt8), (p15_k1 x0))])), [], runT_ok (LS := (fun k => if k = 3610 then some (.exit 0, p15_e4, [(.cells [(.d (.sl (.int .i64) x0.1)), (.d (.sl (.int .i64) x0.2))]), (.arr (.pair .str .str) [(([97] : List UInt8), (p15_k1 x0))] true)]) else none)) (fn := fn15) (vis := [(3610, p15_e6, [(.cells [(.d (.sl (.int .i64) x0.1)), (.d (.sl (.int .i64) x0.2))]), (.arr (.pair .str .str) ([] : List ((List UInt8) × (List UInt8))) true)])]) (by kernel_rfl) rfl (by kernel_rfl) (M.run_of_path _ [true, true, true, true] _ _ (by kernel_rfl) (all_t rfl (all_t rfl (all_t rfl (all_t rfl all_nil))))) ?_, by simp, (wkR.one (wkV.one (wk1.eq rfl))), trivial⟩
                  intro p hp p2 hq
                  rcases List.mem_cons.1 hp with rfl | hp
                  · skip
                    have ht3 : (turn (hds 15 3610) 0 3610 (evC byref (evCall F S4 (m + 24)) (m + 24) 0 (hds 15) lbu15_0) p15_e12 [(.cells [(.d (.sl (.int .i64) x0.1)), (.d (.sl (.int .i64) x0.2))]), (.arr (.pair .str .str) [(([97] : List UInt8), (p15_k1 x0))] true)]).run = some (.exit 0, p15_e4, [(.cells [(.d (.sl (.int .i64) x0.1)), (.d (.sl (.int .i64) x0.2))]), (.arr (.pair .str .str) [(([97] : List UInt8), (p15_k1 x0))] true)]) := M.run_of_path _ [false] _ _ (by kernel_rfl) (all_f Bool.false_ne_true all_nil)
                    have hp3 := turns_last (n := m + 20) (by simp) ht3
                    have ht2 : (turn (hds 15 3610) 0 3610 (evC byref (evCall F S4 (m + 24)) (m + 24) 0 (hds 15) lbu15_0) p15_e11 [(.cells [(.d (.sl (.int .i64) x0.1)), (.d (.sl (.int .i64) x0.2))]), (.arr (.pair .str .str) [(([97] : List UInt8), (p15_k1 x0))] true)]).run = some (.normal, p15_e12, [(.cells [(.d (.sl (.int .i64) x0.1)), (.d (.sl (.int .i64) x0.2))]), (.arr (.pair .str .str) [(([97] : List UInt8), (p15_k1 x0))] true)]) := M.run_of_path _ [true, true, true, false, false, false, false, false, false, false, false, false] _ _ (by kernel_rfl) (all_t rfl (all_t rfl (all_t rfl (all_f c41 (all_f c41 (all_f c41 (all_f c41 (all_f c41 (all_f c41 (all_f c41 (all_f c41 (all_f Bool.false_ne_true all_nil))))))))))))
                    have hs2 : (turns (hds 15 3610) 0 3610 (evC byref (evCall F S4 (m + 24)) (m + 24) 0 (hds 15) lbu15_0) (m + 21) p15_e12 [(.cells [(.d (.sl (.int .i64) x0.1)), (.d (.sl (.int .i64) x0.2))]), (.arr (.pair .str .str) [(([97] : List UInt8), (p15_k1 x0))] true)]).run = some (.exit 0, p15_e4, [(.cells [(.d (.sl (.int .i64) x0.1)), (.d (.sl (.int .i64) x0.2))]), (.arr (.pair .str .str) [(([97] : List UInt8), (p15_k1 x0))] true)]) := Eq.mp (by kernel_rfl) hp3
                    have hp2 := turns_step ht2 hs2
                    have ht1 : (turn (hds 15 3610) 0 3610 (evC byref (evCall F S4 (m + 24)) (m + 24) 0 (hds 15) lbu15_0) p15_e9 [(.cells [(.d (.sl (.int .i64) x0.1)), (.d (.sl (.int .i64) x0.2))]), (.arr (.pair .str .str) [(([97] : List UInt8), (p15_k1 x0))] true)]).run = some (.normal, p15_e11, [(.cells [(.d (.sl (.int .i64) x0.1)), (.d (.sl (.int .i64) x0.2))]), (.arr (.pair .str .str) [(([97] : List UInt8), (p15_k1 x0))] true)]) := M.run_of_path _ [true, true, true, true, true, true, true, true, true, true, true, true, true, false] _ _ (by kernel_rfl) (all_t rfl (all_t rfl (all_t rfl (all_t c27 (all_t c27 (all_t c27 (all_t c27 (all_t rfl (all_t c27 (all_t c27 (all_t c27 (all_t c27 (all_t c27 (all_f c37 all_nil))))))))))))))
                    have hs1 : (turns (hds 15 3610) 0 3610 (evC byref (evCall F S4 (m + 24)) (m + 24) 0 (hds 15) lbu15_0) (m + 22) p15_e11 [(.cells [(.d (.sl (.int .i64) x0.1)), (.d (.sl (.int .i64) x0.2))]), (.arr (.pair .str .str) [(([97] : List UInt8), (p15_k1 x0))] true)]).run = some (.exit 0, p15_e4, [(.cells [(.d (.sl (.int .i64) x0.1)), (.d (.sl (.int .i64) x0.2))]), (.arr (.pair .str .str) [(([97] : List UInt8), (p15_k1 x0))] true)]) := Eq.mp (by kernel_rfl) hp2
                    have hp1 := turns_step ht1 hs1
                    have ht0 : (turn (hds 15 3610) 0 3610 (evC byref (evCall F S4 (m + 24)) (m + 24) 0 (hds 15) lbu15_0) p15_e6 [(.cells [(.d (.sl (.int .i64) x0.1)), (.d (.sl (.int .i64) x0.2))]), (.arr (.pair .str .str) ([] : List ((List UInt8) × (List UInt8))) true)]).run = some (.normal, p15_e9, [(.cells [(.d (.sl (.int .i64) x0.1)), (.d (.sl (.int .i64) x0.2))]), (.arr (.pair .str .str) [(([97] : List UInt8), (p15_k1 x0))] true)]) := M.run_of_path _ [true, true, true, true, true, true, true, true, true, true, true, true, true, true, true, true, true, true, true, true, true] _ _ (by kernel_rfl) (all_t rfl (all_t rfl (all_t rfl (all_t c6 (all_t c6 (all_t c6 (all_t c6 (all_t rfl (all_t c6 (all_t c6 (all_t c6 (all_t c6 (all_t c6 (all_t c16 (all_t c17 (all_t rfl (all_t c19 (all_t c20 (all_t rfl (all_t rfl (all_t rfl all_nil)))))))))))))))))))))
                    have hs0 : (turns (hds 15 3610) 0 3610 (evC byref (evCall F S4 (m + 24)) (m + 24) 0 (hds 15) lbu15_0) (m + 23) p15_e9 [(.cells [(.d (.sl (.int .i64) x0.1)), (.d (.sl (.int .i64) x0.2))]), (.arr (.pair .str .str) [(([97] : List UInt8), (p15_k1 x0))] true)]).run = some (.exit 0, p15_e4, [(.cells [(.d (.sl (.int .i64) x0.1)), (.d (.sl (.int .i64) x0.2))]), (.arr (.pair .str .str) [(([97] : List UInt8), (p15_k1 x0))] true)]) := Eq.mp (by kernel_rfl) hp1
                    have hp0 := turns_step ht0 hs0
                    exact Eq.trans (Eq.mp (by kernel_rfl) hp0) hq
                  cases hp
            · skip
              refine ite_cases h (fun c39 h => ?_) (fun c39 h => ?_)
              · skip
                refine ite_cases h (fun c49 h => ?_) (fun c49 h => ?_)
                · skip
                  refine ite_cases h (fun c50 h => ?_) (fun c50 h => ?_)
                  · skip
                    refine ite_cases h (fun c52 h => ?_) (fun c52 h => ?_)
                    · skip
                      refine ite_cases h (fun c53 h => ?_) (fun c53 h => ?_)
                      · skip
                        cases h
                        refine ⟨(.d (.sl (.pair .str .str) [(([97] : List UInt8), (p15_k1 x0)), (([99] : List UInt8), (p15_k3 x0))])), [], runT_ok (LS := (fun k => if k = 3610 then some (.exit 0, p15_e3, [(.cells [(.d (.sl (.int .i64) x0.1)), (.d (.sl (.int .i64) x0.2))]), (.arr (.pair .str .str) [(([97] : List UInt8), (p15_k1 x0)), (([99] : List UInt8), (p15_k3 x0))] true)]) else none)) (fn := fn15) (vis := [(3610, p15_e6, [(.cells [(.d (.sl (.int .i64) x0.1)), (.d (.sl (.int .i64) x0.2))]), (.arr (.pair .str .str) ([] : List ((List UInt8) × (List UInt8))) true)])]) (by kernel_rfl) rfl (by kernel_rfl) (M.run_of_path _ [true, true, true, true] _ _ (by kernel_rfl) (all_t rfl (all_t rfl (all_t rfl (all_t rfl all_nil))))) ?_, by simp, (wkR.one (wkV.one (wk1.eq rfl))), trivial⟩
                        intro p hp p2 hq
                        rcases List.mem_cons.1 hp with rfl | hp
                        · skip
                          have ht3 : (turn (hds 15 3610) 0 3610 (evC byref (evCall F S4 (m + 24)) (m + 24) 0 (hds 15) lbu15_0) p15_e10 [(.cells [(.d (.sl (.int .i64) x0.1)), (.d (.sl (.int .i64) x0.2))]), (.arr (.pair .str .str) [(([97] : List UInt8), (p15_k1 x0)), (([99] : List UInt8), (p15_k3 x0))] true)]).run = some (.exit 0, p15_e3, [(.cells [(.d (.sl (.int .i64) x0.1)), (.d (.sl (.int .i64) x0.2))]), (.arr (.pair .str .str) [(([97] : List UInt8), (p15_k1 x0)), (([99] : List UInt8), (p15_k3 x0))] true)]) := M.run_of_path _ [false] _ _ (by kernel_rfl) (all_f Bool.false_ne_true all_nil)
                          have hp3 := turns_last (n := m + 20) (by simp) ht3
                          have ht2 : (turn (hds 15 3610) 0 3610 (evC byref (evCall F S4 (m + 24)) (m + 24) 0 (hds 15) lbu15_0) p15_e11 [(.cells [(.d (.sl (.int .i64) x0.1)), (.d (.sl (.int .i64) x0.2))]), (.arr (.pair .str .str) [(([97] : List UInt8), (p15_k1 x0))] true)]).run = some (.normal, p15_e10, [(.cells [(.d (.sl (.int .i64) x0.1)), (.d (.sl (.int .i64) x0.2))]), (.arr (.pair .str .str) [(([97] : List UInt8), (p15_k1 x0)), (([99] : List UInt8), (p15_k3 x0))] true)]) := M.run_of_path _ [true, true, true, true, true, true, true, true, true, true, true, true, true, true, true, true, true, true, true, true, true] _ _ (by kernel_rfl) (all_t rfl (all_t rfl (all_t rfl (all_t c39 (all_t c39 (all_t c39 (all_t c39 (all_t rfl (all_t c39 (all_t c39 (all_t c39 (all_t c39 (all_t c39 (all_t c49 (all_t c50 (all_t rfl (all_t c52 (all_t c53 (all_t rfl (all_t rfl (all_t rfl all_nil)))))))))))))))))))))
                          have hs2 : (turns (hds 15 3610) 0 3610 (evC byref (evCall F S4 (m + 24)) (m + 24) 0 (hds 15) lbu15_0) (m + 21) p15_e10 [(.cells [(.d (.sl (.int .i64) x0.1)), (.d (.sl (.int .i64) x0.2))]), (.arr (.pair .str .str) [(([97] : List UInt8), (p15_k1 x0)), (([99] : List UInt8), (p15_k3 x0))] true)]).run = some (.exit 0, p15_e3, [(.cells [(.d (.sl (.int .i64) x0.1)), (.d (.sl (.int .i64) x0.2))]), (.arr (.pair .str .str) [(([97] : List UInt8), (p15_k1 x0)), (([99] : List UInt8), (p15_k3 x0))] true)]) := Eq.mp (by kernel_rfl) hp3
                          have hp2 := turns_step ht2 hs2
                          have ht1 : (turn (hds 15 3610) 0 3610 (evC byref (evCall F S4 (m + 24)) (m + 24) 0 (hds 15) lbu15_0) p15_e9 [(.cells [(.d (.sl (.int .i64) x0.1)), (.d (.sl (.int .i64) x0.2))]), (.arr (.pair .str .str) [(([97] : List UInt8), (p15_k1 x0))] true)]).run = some (.normal, p15_e11, [(.cells [(.d (.sl (.int .i64) x0.1)), (.d (.sl (.int .i64) x0.2))]), (.arr (.pair .str .str) [(([97] : List UInt8), (p15_k1 x0))] true)]) := M.run_of_path _ [true, true, true, false, false, false, false, false, false, false, false, false] _ _ (by kernel_rfl) (all_t rfl (all_t rfl (all_t rfl (all_f c27 (all_f c27 (all_f c27 (all_f c27 (all_f c27 (all_f c27 (all_f c27 (all_f c27 (all_f Bool.false_ne_true all_nil))))))))))))
                          have hs1 : (turns (hds 15 3610) 0 3610 (evC byref (evCall F S4 (m + 24)) (m + 24) 0 (hds 15) lbu15_0) (m + 22) p15_e11 [(.cells [(.d (.sl (.int .i64) x0.1)), (.d (.sl (.int .i64) x0.2))]), (.arr (.pair .str .str) [(([97] : List UInt8), (p15_k1 x0))] true)]).run = some (.exit 0, p15_e3, [(.cells [(.d (.sl (.int .i64) x0.1)), (.d (.sl (.int .i64) x0.2))]), (.arr (.pair .str .str) [(([97] : List UInt8), (p15_k1 x0)), (([99] : List UInt8), (p15_k3 x0))] true)]) := Eq.mp (by kernel_rfl) hp2
                          have hp1 := turns_step ht1 hs1
                          have ht0 : (turn (hds 15 3610) 0 3610 (evC byref (evCall F S4 (m + 24)) (m + 24) 0 (hds 15) lbu15_0) p15_e6 [(.cells [(.d (.sl (.int .i64) x0.1)), (.d (.sl (.int .i64) x0.2))]), (.arr (.pair .str .str) ([] : List ((List UInt8) × (List UInt8))) true)]).run = some (.normal, p15_e9, [(.cells [(.d (.sl (.int .i64) x0.1)), (.d (.sl (.int .i64) x0.2))]), (.arr (.pair .str .str) [(([97] : List UInt8), (p15_k1 x0))] true)]) := M.run_of_path _ [true, true, true, true, true, true, true, true, true, true, true, true, true, true, true, true, true, true, true, true, true] _ _ (by kernel_rfl) (all_t rfl (all_t rfl (all_t rfl (all_t c6 (all_t c6 (all_t c6 (all_t c6 (all_t rfl (all_t c6 (all_t c6 (all_t c6 (all_t c6 (all_t c6 (all_t c16 (all_t c17 (all_t rfl (all_t c19 (all_t c20 (all_t rfl (all_t rfl (all_t rfl all_nil)))))))))))))))))))))
                          have hs0 : (turns (hds 15 3610) 0 3610 (evC byref (evCall F S4 (m + 24)) (m + 24) 0 (hds 15) lbu15_0) (m + 23) p15_e9 [(.cells [(.d (.sl (.int .i64) x0.1)), (.d (.sl (.int .i64) x0.2))]), (.arr (.pair .str .str) [(([97] : List UInt8), (p15_k1 x0))] true)]).run = some (.exit 0, p15_e3, [(.cells [(.d (.sl (.int .i64) x0.1)), (.d (.sl (.int .i64) x0.2))]), (.arr (.pair .str .str) [(([97] : List UInt8), (p15_k1 x0)), (([99] : List UInt8), (p15_k3 x0))] true)]) := Eq.mp (by kernel_rfl) hp1
                          have hp0 := turns_step ht0 hs0
                          exact Eq.trans (Eq.mp (by kernel_rfl) hp0) hq
                        cases hp
                      · skip
                        cases h
                    · skip
                      cases h
                  · skip
                    cases h
                · skip
                  cases h
                  refine ⟨(.d (.sl (.pair .str .str) [(([97] : List UInt8), (p15_k1 x0))])), [], runT_ok (LS := (fun k => if k = 3610 then some (.exit 0, p15_e4, [(.cells [(.d (.sl (.int .i64) x0.1)), (.d (.sl (.int .i64) x0.2))]), (.arr (.pair .str .str) [(([97] : List UInt8), (p15_k1 x0))] true)]) else none)) (fn := fn15) (vis := [(3610, p15_e6, [(.cells [(.d (.sl (.int .i64) x0.1)), (.d (.sl (.int .i64) x0.2))]), (.arr (.pair .str .str) ([] : List ((List UInt8) × (List UInt8))) true)])]) (by kernel_rfl) rfl (by kernel_rfl) (M.run_of_path _ [true, true, true, true] _ _ (by kernel_rfl) (all_t rfl (all_t rfl (all_t rfl (all_t rfl all_nil))))) ?_, by simp, (wkR.one (wkV.one (wk1.eq rfl))), trivial⟩
                  intro p hp p2 hq
                  rcases List.mem_cons.1 hp with rfl | hp
                  · skip
                    have ht3 : (turn (hds 15 3610) 0 3610 (evC byref (evCall F S4 (m + 24)) (m + 24) 0 (hds 15) lbu15_0) p15_e12 [(.cells [(.d (.sl (.int .i64) x0.1)), (.d (.sl (.int .i64) x0.2))]), (.arr (.pair .str .str) [(([97] : List UInt8), (p15_k1 x0))] true)]).run = some (.exit 0, p15_e4, [(.cells [(.d (.sl (.int .i64) x0.1)), (.d (.sl (.int .i64) x0.2))]), (.arr (.pair .str .str) [(([97] : List UInt8), (p15_k1 x0))] true)]) := M.run_of_path _ [false] _ _ (by kernel_rfl) (all_f Bool.false_ne_true all_nil)
                    have hp3 := turns_last (n := m + 20) (by simp) ht3
                    have ht2 : (turn (hds 15 3610) 0 3610 (evC byref (evCall F S4 (m + 24)) (m + 24) 0 (hds 15) lbu15_0) p15_e11 [(.cells [(.d (.sl (.int .i64) x0.1)), (.d (.sl (.int .i64) x0.2))]), (.arr (.pair .str .str) [(([97] : List UInt8), (p15_k1 x0))] true)]).run = some (.normal, p15_e12, [(.cells [(.d (.sl (.int .i64) x0.1)), (.d (.sl (.int .i64) x0.2))]), (.arr (.pair .str .str) [(([97] : List UInt8), (p15_k1 x0))] true)]) := M.run_of_path _ [true, true, true, true, true, true, true, true, true, true, true, true, true, false] _ _ (by kernel_rfl) (all_t rfl (all_t rfl (all_t rfl (all_t c39 (all_t c39 (all_t c39 (all_t c39 (all_t rfl (all_t c39 (all_t c39 (all_t c39 (all_t c39 (all_t c39 (all_f c49 all_nil))))))))))))))
                    have hs2 : (turns (hds 15 3610) 0 3610 (evC byref (evCall F S4 (m + 24)) (m + 24) 0 (hds 15) lbu15_0) (m + 21) p15_e12 [(.cells [(.d (.sl (.int .i64) x0.1)), (.d (.sl (.int .i64) x0.2))]), (.arr (.pair .str .str) [(([97] : List UInt8), (p15_k1 x0))] true)]).run = some (.exit 0, p15_e4, [(.cells [(.d (.sl (.int .i64) x0.1)), (.d (.sl (.int .i64) x0.2))]), (.arr (.pair .str .str) [(([97] : List UInt8), (p15_k1 x0))] true)]) := Eq.mp (by kernel_rfl) hp3
                    have hp2 := turns_step ht2 hs2
                    have ht1 : (turn (hds 15 3610) 0 3610 (evC byref (evCall F S4 (m + 24)) (m + 24) 0 (hds 15) lbu15_0) p15_e9 [(.cells [(.d (.sl (.int .i64) x0.1)), (.d (.sl (.int .i64) x0.2))]), (.arr (.pair .str .str) [(([97] : List UInt8), (p15_k1 x0))] true)]).run = some (.normal, p15_e11, [(.cells [(.d (.sl (.int .i64) x0.1)), (.d (.sl (.int .i64) x0.2))]), (.arr (.pair .str .str) [(([97] : List UInt8), (p15_k1 x0))] true)]) := M.run_of_path _ [true, true, true, false, false, false, false, false, false, false, false, false] _ _ (by kernel_rfl) (all_t rfl (all_t rfl (all_t rfl (all_f c27 (all_f c27 (all_f c27 (all_f c27 (all_f c27 (all_f c27 (all_f c27 (all_f c27 (all_f Bool.false_ne_true all_nil))))))))))))
                    have hs1 : (turns (hds 15 3610) 0 3610 (evC byref (evCall F S4 (m + 24)) (m + 24) 0 (hds 15) lbu15_0) (m + 22) p15_e11 [(.cells [(.d (.sl (.int .i64) x0.1)), (.d (.sl (.int .i64) x0.2))]), (.arr (.pair .str .str) [(([97] : List UInt8), (p15_k1 x0))] true)]).run = some (.exit 0, p15_e4, [(.cells [(.d (.sl (.int .i64) x0.1)), (.d (.sl (.int .i64) x0.2))]), (.arr (.pair .str .str) [(([97] : List UInt8), (p15_k1 x0))] true)]) := Eq.mp (by kernel_rfl) hp2
                    have hp1 := turns_step ht1 hs1
                    have ht0 : (turn (hds 15 3610) 0 3610 (evC byref (evCall F S4 (m + 24)) (m + 24) 0 (hds 15) lbu15_0) p15_e6 [(.cells [(.d (.sl (.int .i64) x0.1)), (.d (.sl (.int .i64) x0.2))]), (.arr (.pair .str .str) ([] : List ((List UInt8) × (List UInt8))) true)]).run = some (.normal, p15_e9, [(.cells [(.d (.sl (.int .i64) x0.1)), (.d (.sl (.int .i64) x0.2))]), (.arr (.pair .str .str) [(([97] : List UInt8), (p15_k1 x0))] true)]) := M.run_of_path _ [true, true, true, true, true, true, true, true, true, true, true, true, true, true, true, true, true, true, true, true, true] _ _ (by kernel_rfl) (all_t rfl (all_t rfl (all_t rfl (all_t c6 (all_t c6 (all_t c6 (all_t c6 (all_t rfl (all_t c6 (all_t c6 (all_t c6 (all_t c6 (all_t c6 (all_t c16 (all_t c17 (all_t rfl (all_t c19 (all_t c20 (all_t rfl (all_t rfl (all_t rfl all_nil)))))))))))))))))))))
                    have hs0 : (turns (hds 15 3610) 0 3610 (evC byref (evCall F S4 (m + 24)) (m + 24) 0 (hds 15) lbu15_0) (m + 23) p15_e9 [(.cells [(.d (.sl (.int .i64) x0.1)), (.d (.sl (.int .i64) x0.2))]), (.arr (.pair .str .str) [(([97] : List UInt8), (p15_k1 x0))] true)]).run = some (.exit 0, p15_e4, [(.cells [(.d (.sl (.int .i64) x0.1)), (.d (.sl (.int .i64) x0.2))]), (.arr (.pair .str .str) [(([97] : List UInt8), (p15_k1 x0))] true)]) := Eq.mp (by kernel_rfl) hp1
                    have hp0 := turns_step ht0 hs0
                    exact Eq.trans (Eq.mp (by kernel_rfl) hp0) hq
                  cases hp
              · skip
                cases h
                refine ⟨(.d (.sl (.pair .str .str) [(([97] : List UInt8), (p15_k1 x0))])), [], runT_ok (LS := (fun k => if k = 3610 then some (.exit 0, p15_e4, [(.cells [(.d (.sl (.int .i64) x0.1)), (.d (.sl (.int .i64) x0.2))]), (.arr (.pair .str .str) [(([97] : List UInt8), (p15_k1 x0))] true)]) else none)) (fn := fn15) (vis := [(3610, p15_e6, [(.cells [(.d (.sl (.int .i64) x0.1)), (.d (.sl (.int .i64) x0.2))]), (.arr (.pair .str .str) ([] : List ((List UInt8) × (List UInt8))) true)])]) (by kernel_rfl) rfl (by kernel_rfl) (M.run_of_path _ [true, true, true, true] _ _ (by kernel_rfl) (all_t rfl (all_t rfl (all_t rfl (all_t rfl all_nil))))) ?_, by simp, (wkR.one (wkV.one (wk1.eq rfl))), trivial⟩
                intro p hp p2 hq
                rcases List.mem_cons.1 hp with rfl | hp
                · skip
                  have ht3 : (turn (hds 15 3610) 0 3610 (evC byref (evCall F S4 (m + 24)) (m + 24) 0 (hds 15) lbu15_0) p15_e12 [(.cells [(.d (.sl (.int .i64) x0.1)), (.d (.sl (.int .i64) x0.2))]), (.arr (.pair .str .str) [(([97] : List UInt8), (p15_k1 x0))] true)]).run = some (.exit 0, p15_e4, [(.cells [(.d (.sl (.int .i64) x0.1)), (.d (.sl (.int .i64) x0.2))]), (.arr (.pair .str .str) [(([97] : List UInt8), (p15_k1 x0))] true)]) := M.run_of_path _ [false] _ _ (by kernel_rfl) (all_f Bool.false_ne_true all_nil)
                  have hp3 := turns_last (n := m + 20) (by simp) ht3
                  have ht2 : (turn (hds 15 3610) 0 3610 (evC byref (evCall F S4 (m + 24)) (m + 24) 0 (hds 15) lbu15_0) p15_e11 [(.cells [(.d (.sl (.int .i64) x0.1)), (.d (.sl (.int .i64) x0.2))]), (.arr (.pair .str .str) [(([97] : List UInt8), (p15_k1 x0))] true)]).run = some (.normal, p15_e12, [(.cells [(.d (.sl (.int .i64) x0.1)), (.d (.sl (.int .i64) x0.2))]), (.arr (.pair .str .str) [(([97] : List UInt8), (p15_k1 x0))] true)]) := M.run_of_path _ [true, true, true, false, false, false, false, false, false, false, false, false] _ _ (by kernel_rfl) (all_t rfl (all_t rfl (all_t rfl (all_f c39 (all_f c39 (all_f c39 (all_f c39 (all_f c39 (all_f c39 (all_f c39 (all_f c39 (all_f Bool.false_ne_true all_nil))))))))))))
                  have hs2 : (turns (hds 15 3610) 0 3610 (evC byref (evCall F S4 (m + 24)) (m + 24) 0 (hds 15) lbu15_0) (m + 21) p15_e12 [(.cells [(.d (.sl (.int .i64) x0.1)), (.d (.sl (.int .i64) x0.2))]), (.arr (.pair .str .str) [(([97] : List UInt8), (p15_k1 x0))] true)]).run = some (.exit 0, p15_e4, [(.cells [(.d (.sl (.int .i64) x0.1)), (.d (.sl (.int .i64) x0.2))]), (.arr (.pair .str .str) [(([97] : List UInt8), (p15_k1 x0))] true)]) := Eq.mp (by kernel_rfl) hp3
                  have hp2 := turns_step ht2 hs2
                  have ht1 : (turn (hds 15 3610) 0 3610 (evC byref (evCall F S4 (m + 24)) (m + 24) 0 (hds 15) lbu15_0) p15_e9 [(.cells [(.d (.sl (.int .i64) x0.1)), (.d (.sl (.int .i64) x0.2))]), (.arr (.pair .str .str) [(([97] : List UInt8), (p15_k1 x0))] true)]).run = some (.normal, p15_e11, [(.cells [(.d (.sl (.int .i64) x0.1)), (.d (.sl (.int .i64) x0.2))]), (.arr (.pair .str .str) [(([97] : List UInt8), (p15_k1 x0))] true)]) := M.run_of_path _ [true, true, true, false, false, false, false, false, false, false, false, false] _ _ (by kernel_rfl) (all_t rfl (all_t rfl (all_t rfl (all_f c27 (all_f c27 (all_f c27 (all_f c27 (all_f c27 (all_f c27 (all_f c27 (all_f c27 (all_f Bool.false_ne_true all_nil))))))))))))
                  have hs1 : (turns (hds 15 3610) 0 3610 (evC byref (evCall F S4 (m + 24)) (m + 24) 0 (hds 15) lbu15_0) (m + 22) p15_e11 [(.cells [(.d (.sl (.int .i64) x0.1)), (.d (.sl (.int .i64) x0.2))]), (.arr (.pair .str .str) [(([97] : List UInt8), (p15_k1 x0))] true)]).run = some (.exit 0, p15_e4, [(.cells [(.d (.sl (.int .i64) x0.1)), (.d (.sl (.int .i64) x0.2))]), (.arr (.pair .str .str) [(([97] : List UInt8), (p15_k1 x0))] true)]) := Eq.mp (by kernel_rfl) hp2
                  have hp1 := turns_step ht1 hs1
                  have ht0 : (turn (hds 15 3610) 0 3610 (evC byref (evCall F S4 (m + 24)) (m + 24) 0 (hds 15) lbu15_0) p15_e6 [(.cells [(.d (.sl (.int .i64) x0.1)), (.d (.sl (.int .i64) x0.2))]), (.arr (.pair .str .str) ([] : List ((List UInt8) × (List UInt8))) true)]).run = some (.normal, p15_e9, [(.cells [(.d (.sl (.int .i64) x0.1)), (.d (.sl (.int .i64) x0.2))]), (.arr (.pair .str .str) [(([97] : List UInt8), (p15_k1 x0))] true)]) := M.run_of_path _ [true, true, true, true, true, true, true, true, true, true, true, true, true, true, true, true, true, true, true, true, true] _ _ (by kernel_rfl) (all_t rfl (all_t rfl (all_t rfl (all_t c6 (all_t c6 (all_t c6 (all_t c6 (all_t rfl (all_t c6 (all_t c6 (all_t c6 (all_t c6 (all_t c6 (all_t c16 (all_t c17 (all_t rfl (all_t c19 (all_t c20 (all_t rfl (all_t rfl (all_t rfl all_nil)))))))))))))))))))))
                  have hs0 : (turns (hds 15 3610) 0 3610 (evC byref (evCall F S4 (m + 24)) (m + 24) 0 (hds 15) lbu15_0) (m + 23) p15_e9 [(.cells [(.d (.sl (.int .i64) x0.1)), (.d (.sl (.int .i64) x0.2))]), (.arr (.pair .str .str) [(([97] : List UInt8), (p15_k1 x0))] true)]).run = some (.exit 0, p15_e4, [(.cells [(.d (.sl (.int .i64) x0.1)), (.d (.sl (.int .i64) x0.2))]), (.arr (.pair .str .str) [(([97] : List UInt8), (p15_k1 x0))] true)]) := Eq.mp (by kernel_rfl) hp1
                  have hp0 := turns_step ht0 hs0
                  exact Eq.trans (Eq.mp (by kernel_rfl) hp0) hq
                cases hp
          · skip
            cases h
        · skip
          cases h
      · skip
        cases h
    · skip
      refine ite_cases h (fun c20 h => ?_) (fun c20 h => ?_)
      · skip
        refine ite_cases h (fun c30 h => ?_) (fun c30 h => ?_)
        · skip
          refine ite_cases h (fun c31 h => ?_) (fun c31 h => ?_)
          · skip
            refine ite_cases h (fun c33 h => ?_) (fun c33 h => ?_)
            · skip
              refine ite_cases h (fun c34 h => ?_) (fun c34 h => ?_)
              · skip
                refine ite_cases h (fun c41 h => ?_) (fun c41 h => ?_)
                · skip
                  refine ite_cases h (fun c51 h => ?_) (fun c51 h => ?_)
                  · skip
                    refine ite_cases h (fun c52 h => ?_) (fun c52 h => ?_)
                    · skip
                      refine ite_cases h (fun c54 h => ?_) (fun c54 h => ?_)
                      · skip
                        refine ite_cases h (fun c55 h => ?_) (fun c55 h => ?_)
                        · skip
                          cases h
                          refine ⟨(.d (.sl (.pair .str .str) [(([98] : List UInt8), (p15_k2 x0)), (([99] : List UInt8), (p15_k3 x0))])), [], runT_ok (LS := (fun k => if k = 3610 then some (.exit 0, p15_e3, [(.cells [(.d (.sl (.int .i64) x0.1)), (.d (.sl (.int .i64) x0.2))]), (.arr (.pair .str .str) [(([98] : List UInt8), (p15_k2 x0)), (([99] : List UInt8), (p15_k3 x0))] true)]) else none)) (fn := fn15) (vis := [(3610, p15_e6, [(.cells [(.d (.sl (.int .i64) x0.1)), (.d (.sl (.int .i64) x0.2))]), (.arr (.pair .str .str) ([] : List ((List UInt8) × (List UInt8))) true)])]) (by kernel_rfl) rfl (by kernel_rfl) (M.run_of_path _ [true, true, true, true] _ _ (by kernel_rfl) (all_t rfl (all_t rfl (all_t rfl (all_t rfl all_nil))))) ?_, by simp, (wkR.one (wkV.one (wk1.eq rfl))), trivial⟩
                          intro p hp p2 hq
                          rcases List.mem_cons.1 hp with rfl | hp
                          · skip
                            have ht3 : (turn (hds 15 3610) 0 3610 (evC byref (evCall F S4 (m + 24)) (m + 24) 0 (hds 15) lbu15_0) p15_e10 [(.cells [(.d (.sl (.int .i64) x0.1)), (.d (.sl (.int .i64) x0.2))]), (.arr (.pair .str .str) [(([98] : List UInt8), (p15_k2 x0)), (([99] : List UInt8), (p15_k3 x0))] true)]).run = some (.exit 0, p15_e3, [(.cells [(.d (.sl (.int .i64) x0.1)), (.d (.sl (.int .i64) x0.2))]), (.arr (.pair .str .str) [(([98] : List UInt8), (p15_k2 x0)), (([99] : List UInt8), (p15_k3 x0))] true)]) := M.run_of_path _ [false] _ _ (by kernel_rfl) (all_f Bool.false_ne_true all_nil)
                            have hp3 := turns_last (n := m + 20) (by simp) ht3
                            have ht2 : (turn (hds 15 3610) 0 3610 (evC byref (evCall F S4 (m + 24)) (m + 24) 0 (hds 15) lbu15_0) p15_e11 [(.cells [(.d (.sl (.int .i64) x0.1)), (.d (.sl (.int .i64) x0.2))]), (.arr (.pair .str .str) [(([98] : List UInt8), (p15_k2 x0))] true)]).run = some (.normal, p15_e10, [(.cells [(.d (.sl (.int .i64) x0.1)), (.d (.sl (.int .i64) x0.2))]), (.arr (.pair .str .str) [(([98] : List UInt8), (p15_k2 x0)), (([99] : List UInt8), (p15_k3 x0))] true)]) := M.run_of_path _ [true, true, true, true, true, true, true, true, true, true, true, true, true, true, true, true, true, true, true, true, true] _ _ (by kernel_rfl) (all_t rfl (all_t rfl (all_t rfl (all_t c41 (all_t c41 (all_t c41 (all_t c41 (all_t rfl (all_t c41 (all_t c41 (all_t c41 (all_t c41 (all_t c41 (all_t c51 (all_t c52 (all_t rfl (all_t c54 (all_t c55 (all_t rfl (all_t rfl (all_t rfl all_nil)))))))))))))))))))))
                            have hs2 : (turns (hds 15 3610) 0 3610 (evC byref (evCall F S4 (m + 24)) (m + 24) 0 (hds 15) lbu15_0) (m + 21) p15_e10 [(.cells [(.d (.sl (.int .i64) x0.1)), (.d (.sl (.int .i64) x0.2))]), (.arr (.pair .str .str) [(([98] : List UInt8), (p15_k2 x0)), (([99] : List UInt8), (p15_k3 x0))] true)]).run = some (.exit 0, p15_e3, [(.cells [(.d (.sl (.int .i64) x0.1)), (.d (.sl (.int .i64) x0.2))]), (.arr (.pair .str .str) [(([98] : List UInt8), (p15_k2 x0)), (([99] : List UInt8), (p15_k3 x0))] true)]) := Eq.mp (by kernel_rfl) hp3
                            have hp2 := turns_step ht2 hs2
                            have ht1 : (turn (hds 15 3610) 0 3610 (evC byref (evCall F S4 (m + 24)) (m + 24) 0 (hds 15) lbu15_0) p15_e13 [(.cells [(.d (.sl (.int .i64) x0.1)), (.d (.sl (.int .i64) x0.2))]), (.arr (.pair .str .str) ([] : List ((List UInt8) × (List UInt8))) true)]).run = some (.normal, p15_e11, [(.cells [(.d (.sl (.int .i64) x0.1)), (.d (.sl (.int .i64) x0.2))]), (.arr (.pair .str .str) [(([98] : List UInt8), (p15_k2 x0))] true)]) := M.run_of_path _ [true, true, true, true, true, true, true, true, true, true, true, true, true, true, true, true, true, true, true, true, true] _ _ (by kernel_rfl) (all_t rfl (all_t rfl (all_t rfl (all_t c20 (all_t c20 (all_t c20 (all_t c20 (all_t rfl (all_t c20 (all_t c20 (all_t c20 (all_t c20 (all_t c20 (all_t c30 (all_t c31 (all_t rfl (all_t c33 (all_t c34 (all_t rfl (all_t rfl (all_t rfl all_nil)))))))))))))))))))))
                            have hs1 : (turns (hds 15 3610) 0 3610 (evC byref (evCall F S4 (m + 24)) (m + 24) 0 (hds 15) lbu15_0) (m + 22) p15_e11 [(.cells [(.d (.sl (.int .i64) x0.1)), (.d (.sl (.int .i64) x0.2))]), (.arr (.pair .str .str) [(([98] : List UInt8), (p15_k2 x0))] true)]).run = some (.exit 0, p15_e3, [(.cells [(.d (.sl (.int .i64) x0.1)), (.d (.sl (.int .i64) x0.2))]), (.arr (.pair .str .str) [(([98] : List UInt8), (p15_k2 x0)), (([99] : List UInt8), (p15_k3 x0))] true)]) := Eq.mp (by kernel_rfl) hp2
                            have hp1 := turns_step ht1 hs1
                            have ht0 : (turn (hds 15 3610) 0 3610 (evC byref (evCall F S4 (m + 24)) (m + 24) 0 (hds 15) lbu15_0) p15_e6 [(.cells [(.d (.sl (.int .i64) x0.1)), (.d (.sl (.int .i64) x0.2))]), (.arr (.pair .str .str) ([] : List ((List UInt8) × (List UInt8))) true)]).run = some (.normal, p15_e13, [(.cells [(.d (.sl (.int .i64) x0.1)), (.d (.sl (.int .i64) x0.2))]), (.arr (.pair .str .str) ([] : List ((List UInt8) × (List UInt8))) true)]) := M.run_of_path _ [true, true, true, true, true, true, true, true, true, true, true, true, true, false] _ _ (by kernel_rfl) (all_t rfl (all_t rfl (all_t rfl (all_t c6 (all_t c6 (all_t c6 (all_t c6 (all_t rfl (all_t c6 (all_t c6 (all_t c6 (all_t c6 (all_t c6 (all_f c16 all_nil))))))))))))))
                            have hs0 : (turns (hds 15 3610) 0 3610 (evC byref (evCall F S4 (m + 24)) (m + 24) 0 (hds 15) lbu15_0) (m + 23) p15_e13 [(.cells [(.d (.sl (.int .i64) x0.1)), (.d (.sl (.int .i64) x0.2))]), (.arr (.pair .str .str) ([] : List ((List UInt8) × (List UInt8))) true)]).run = some (.exit 0, p15_e3, [(.cells [(.d (.sl (.int .i64) x0.1)), (.d (.sl (.int .i64) x0.2))]), (.arr (.pair .str .str) [(([98] : List UInt8), (p15_k2 x0)), (([99] : List UInt8), (p15_k3 x0))] true)]) := Eq.mp (by kernel_rfl) hp1
                            have hp0 := turns_step ht0 hs0
                            exact Eq.trans (Eq.mp (by kernel_rfl) hp0) hq
                          cases hp
                        · skip
                          cases h
                      · skip
                        cases h
                    · skip
                      cases h
                  · skip
                    cases h
                    refine ⟨(.d (.sl (.pair .str .str) [(([98] : List UInt8), (p15_k2 x0))])), [], runT_ok (LS := (fun k => if k = 3610 then some (.exit 0, p15_e4, [(.cells [(.d (.sl (.int .i64) x0.1)), (.d (.sl (.int .i64) x0.2))]), (.arr (.pair .str .str) [(([98] : List UInt8), (p15_k2 x0))] true)]) else none)) (fn := fn15) (vis := [(3610, p15_e6, [(.cells [(.d (.sl (.int .i64) x0.1)), (.d (.sl (.int .i64) x0.2))]), (.arr (.pair .str .str) ([] : List ((List UInt8) × (List UInt8))) true)])]) (by kernel_rfl) rfl (by kernel_rfl) (M.run_of_path _ [true, true, true, true] _ _ (by kernel_rfl) (all_t rfl (all_t rfl (all_t rfl (all_t rfl all_nil))))) ?_, by simp, (wkR.one (wkV.one (wk1.eq rfl))), trivial⟩
                    intro p hp p2 hq
                    rcases List.mem_cons.1 hp with rfl | hp
                    · skip
                      have ht3 : (turn (hds 15 3610) 0 3610 (evC byref (evCall F S4 (m + 24)) (m + 24) 0 (hds 15) lbu15_0) p15_e12 [(.cells [(.d (.sl (.int .i64) x0.1)), (.d (.sl (.int .i64) x0.2))]), (.arr (.pair .str .str) [(([98] : List UInt8), (p15_k2 x0))] true)]).run = some (.exit 0, p15_e4, [(.cells [(.d (.sl (.int .i64) x0.1)), (.d (.sl (.int .i64) x0.2))]), (.arr (.pair .str .str) [(([98] : List UInt8), (p15_k2 x0))] true)]) := M.run_of_path _ [false] _ _ (by kernel_rfl) (all_f Bool.false_ne_true all_nil)
                      have hp3 := turns_last (n := m + 20) (by simp) ht3
                      have ht2 : (turn (hds 15 3610) 0 3610 (evC byref (evCall F S4 (m + 24)) (m + 24) 0 (hds 15) lbu15_0) p15_e11 [(.cells [(.d (.sl (.int .i64) x0.1)), (.d (.sl (.int .i64) x0.2))]), (.arr (.pair .str .str) [(([98] : List UInt8), (p15_k2 x0))] true)]).run = some (.normal, p15_e12, [(.cells [(.d (.sl (.int .i64) x0.1)), (.d (.sl (.int .i64) x0.2))]), (.arr (.pair .str .str) [(([98] : List UInt8), (p15_k2 x0))] true)]) := M.run_of_path _ [true, true, true, true, true, true, true, true, true, true, true, true, true, false] _ _ (by kernel_rfl) (all_t rfl (all_t rfl (all_t rfl (all_t c41 (all_t c41 (all_t c41 (all_t c41 (all_t rfl (all_t c41 (all_t c41 (all_t c41 (all_t c41 (all_t c41 (all_f c51 all_nil))))))))))))))
                      have hs2 : (turns (hds 15 3610) 0 3610 (evC byref (evCall F S4 (m + 24)) (m + 24) 0 (hds 15) lbu15_0) (m + 21) p15_e12 [(.cells [(.d (.sl (.int .i64) x0.1)), (.d (.sl (.int .i64) x0.2))]), (.arr (.pair .str .str) [(([98] : List UInt8), (p15_k2 x0))] true)]).run = some (.exit 0, p15_e4, [(.cells [(.d (.sl (.int .i64) x0.1)), (.d (.sl (.int .i64) x0.2))]), (.arr (.pair .str .str) [(([98] : List UInt8), (p15_k2 x0))] true)]) := Eq.mp (by kernel_rfl) hp3
                      have hp2 := turns_step ht2 hs2
                      have ht1 : (turn (hds 15 3610) 0 3610 (evC byref (evCall F S4 (m + 24)) (m + 24) 0 (hds 15) lbu15_0) p15_e13 [(.cells [(.d (.sl (.int .i64) x0.1)), (.d (.sl (.int .i64) x0.2))]), (.arr (.pair .str .str) ([] : List ((List UInt8) × (List UInt8))) true)]).run = some (.normal, p15_e11, [(.cells [(.d (.sl (.int .i64) x0.1)), (.d (.sl (.int .i64) x0.2))]), (.arr (.pair .str .str) [(([98] : List UInt8), (p15_k2 x0))] true)]) := M.run_of_path _ [true, true, true, true, true, true, true, true, true, true, true, true, true, true, true, true, true, true, true, true, true] _ _ (by kernel_rfl) (all_t rfl (all_t rfl (all_t rfl (all_t c20 (all_t c20 (all_t c20 (all_t c20 (all_t rfl (all_t c20 (all_t c20 (all_t c20 (all_t c20 (all_t c20 (all_t c30 (all_t c31 (all_t rfl (all_t c33 (all_t c34 (all_t rfl (all_t rfl (all_t rfl all_nil)))))))))))))))))))))
                      have hs1 : (turns (hds 15 3610) 0 3610 (evC byref (evCall F S4 (m + 24)) (m + 24) 0 (hds 15) lbu15_0) (m + 22) p15_e11 [(.cells [(.d (.sl (.int .i64) x0.1)), (.d (.sl (.int .i64) x0.2))]), (.arr (.pair .str .str) [(([98] : List UInt8), (p15_k2 x0))] true)]).run = some (.exit 0, p15_e4, [(.cells [(.d (.sl (.int .i64) x0.1)), (.d (.sl (.int .i64) x0.2))]), (.arr (.pair .str .str) [(([98] : List UInt8), (p15_k2 x0))] true)]) := Eq.mp (by kernel_rfl) hp2
                      have hp1 := turns_step ht1 hs1
                      have ht0 : (turn (hds 15 3610) 0 3610 (evC byref (evCall F S4 (m + 24)) (m + 24) 0 (hds 15) lbu15_0) p15_e6 [(.cells [(.d (.sl (.int .i64) x0.1)), (.d (.sl (.int .i64) x0.2))]), (.arr (.pair .str .str) ([] : List ((List UInt8) × (List UInt8))) true)]).run = some (.normal, p15_e13, [(.cells [(.d (.sl (.int .i64) x0.1)), (.d (.sl (.int .i64) x0.2))]), (.arr (.pair .str .str) ([] : List ((List UInt8) × (List UInt8))) true)]) := M.run_of_path _ [true, true, true, true, true, true, true, true, true, true, true, true, true, false] _ _ (by kernel_rfl) (all_t rfl (all_t rfl (all_t rfl (all_t c6 (all_t c6 (all_t c6 (all_t c6 (all_t rfl (all_t c6 (all_t c6 (all_t c6 (all_t c6 (all_t c6 (all_f c16 all_nil))))))))))))))
                      have hs0 : (turns (hds 15 3610) 0 3610 (evC byref (evCall F S4 (m + 24)) (m + 24) 0 (hds 15) lbu15_0) (m + 23) p15_e13 [(.cells [(.d (.sl (.int .i64) x0.1)), (.d (.sl (.int .i64) x0.2))]), (.arr (.pair .str .str) ([] : List ((List UInt8) × (List UInt8))) true)]).run = some (.exit 0, p15_e4, [(.cells [(.d (.sl (.int .i64) x0.1)), (.d (.sl (.int .i64) x0.2))]), (.arr (.pair .str .str) [(([98] : List UInt8), (p15_k2 x0))] true)]) := Eq.mp (by kernel_rfl) hp1
                      have hp0 := turns_step ht0 hs0
                      exact Eq.trans (Eq.mp (by kernel_rfl) hp0) hq
                    cases hp
                · skip
                  cases h
                  refine ⟨(.d (.sl (.pair .str .str) [(([98] : List UInt8), (p15_k2 x0))])), [], runT_ok (LS := (fun k => if k = 3610 then some (.exit 0, p15_e4, [(.cells [(.d (.sl (.int .i64) x0.1)), (.d (.sl (.int .i64) x0.2))]), (.arr (.pair .str .str) [(([98] : List UInt8), (p15_k2 x0))] true)]) else none)) (fn := fn15) (vis := [(3610, p15_e6, [(.cells [(.d (.sl (.int .i64) x0.1)), (.d (.sl (.int .i64) x0.2))]), (.arr (.pair .str .str) ([] : List ((List UInt8) × (List UInt8))) true)])]) (by kernel_rfl) rfl (by kernel_rfl) (M.run_of_path _ [true, true, true, true] _ _ (by kernel_rfl) (all_t rfl (all_t rfl (all_t rfl (all_t rfl all_nil))))) ?_, by simp, (wkR.one (wkV.one (wk1.eq rfl))), trivial⟩
                  intro p hp p2 hq
                  rcases List.mem_cons.1 hp with rfl | hp
                  · skip
                    have ht3 : (turn (hds 15 3610) 0 3610 (evC byref (evCall F S4 (m + 24)) (m + 24) 0 (hds 15) lbu15_0) p15_e12 [(.cells [(.d (.sl (.int .i64) x0.1)), (.d (.sl (.int .i64) x0.2))]), (.arr (.pair .str .str) [(([98] : List UInt8), (p15_k2 x0))] true)]).run = some (.exit 0, p15_e4, [(.cells [(.d (.sl (.int .i64) x0.1)), (.d (.sl (.int .i64) x0.2))]), (.arr (.pair .str .str) [(([98] : List UInt8), (p15_k2 x0))] true)]) := M.run_of_path _ [false] _ _ (by kernel_rfl) (all_f Bool.false_ne_true all_nil)
                    have hp3 := turns_last (n := m + 20) (by simp) ht3
                    have ht2 : (turn (hds 15 3610) 0 3610 (evC byref (evCall F S4 (m + 24)) (m + 24) 0 (hds 15) lbu15_0) p15_e11 [(.cells [(.d (.sl (.int .i64) x0.1)), (.d (.sl (.int .i64) x0.2))]), (.arr (.pair .str .str) [(([98] : List UInt8), (p15_k2 x0))] true)]).run = some (.normal, p15_e12, [(.cells [(.d (.sl (.int .i64) x0.1)), (.d (.sl (.int .i64) x0.2))]), (.arr (.pair .str .str) [(([98] : List UInt8), (p15_k2 x0))] true)]) := M.run_of_path _ [true, true, true, false, false, false, false, false, false, false, false, false] _ _ (by kernel_rfl) (all_t rfl (all_t rfl (all_t rfl (all_f c41 (all_f c41 (all_f c41 (all_f c41 (all_f c41 (all_f c41 (all_f c41 (all_f c41 (all_f Bool.false_ne_true all_nil))))))))))))
                    have hs2 : (turns (hds 15 3610) 0 3610 (evC byref (evCall F S4 (m + 24)) (m + 24) 0 (hds 15) lbu15_0) (m + 21) p15_e12 [(.cells [(.d (.sl (.int .i64) x0.1)), (.d (.sl (.int .i64) x0.2))]), (.arr (.pair .str .str) [(([98] : List UInt8), (p15_k2 x0))] true)]).run = some (.exit 0, p15_e4, [(.cells [(.d (.sl (.int .i64) x0.1)), (.d (.sl (.int .i64) x0.2))]), (.arr (.pair .str .str) [(([98] : List UInt8), (p15_k2 x0))] true)]) := Eq.mp (by kernel_rfl) hp3
                    have hp2 := turns_step ht2 hs2
                    have ht1 : (turn (hds 15 3610) 0 3610 (evC byref (evCall F S4 (m + 24)) (m + 24) 0 (hds 15) lbu15_0) p15_e13 [(.cells [(.d (.sl (.int .i64) x0.1)), (.d (.sl (.int .i64) x0.2))]), (.arr (.pair .str .str) ([] : List ((List UInt8) × (List UInt8))) true)]).run = some (.normal, p15_e11, [(.cells [(.d (.sl (.int .i64) x0.1)), (.d (.sl (.int .i64) x0.2))]), (.arr (.pair .str .str) [(([98] : List UInt8), (p15_k2 x0))] true)]) := M.run_of_path _ [true, true, true, true, true, true, true, true, true, true, true, true, true, true, true, true, true, true, true, true, true] _ _ (by kernel_rfl) (all_t rfl (all_t rfl (all_t rfl (all_t c20 (all_t c20 (all_t c20 (all_t c20 (all_t rfl (all_t c20 (all_t c20 (all_t c20 (all_t c20 (all_t c20 (all_t c30 (all_t c31 (all_t rfl (all_t c33 (all_t c34 (all_t rfl (all_t rfl (all_t rfl all_nil)))))))))))))))))))))
                    have hs1 : (turns (hds 15 3610) 0 3610 (evC byref (evCall F S4 (m + 24)) (m + 24) 0 (hds 15) lbu15_0) (m + 22) p15_e11 [(.cells [(.d (.sl (.int .i64) x0.1)), (.d (.sl (.int .i64) x0.2))]), (.arr (.pair .str .str) [(([98] : List UInt8), (p15_k2 x0))] true)]).run = some (.exit 0, p15_e4, [(.cells [(.d (.sl (.int .i64) x0.1)), (.d (.sl (.int .i64) x0.2))]), (.arr (.pair .str .str) [(([98] : List UInt8), (p15_k2 x0))] true)]) := Eq.mp (by kernel_rfl) hp2
                    have hp1 := turns_step ht1 hs1
                    have ht0 : (turn (hds 15 3610) 0 3610 (evC byref (evCall F S4 (m + 24)) (m + 24) 0 (hds 15) lbu15_0) p15_e6 [(.cells [(.d (.sl (.int .i64) x0.1)), (.d (.sl (.int .i64) x0.2))]), (.arr (.pair .str .str) ([] : List ((List UInt8) × (List UInt8))) true)]).run = some (.normal, p15_e13, [(.cells [(.d (.sl (.int .i64) x0.1)), (.d (.sl (.int .i64) x0.2))]), (.arr (.pair .str .str) ([] : List ((List UInt8) × (List UInt8))) true)]) := M.run_of_path _ [true, true, true, true, true, true, true, true, true, true, true, true, true, false] _ _ (by kernel_rfl) (all_t rfl (all_t rfl (all_t rfl (all_t c6 (all_t c6 (all_t c6 (all_t c6 (all_t rfl (all_t c6 (all_t c6 (all_t c6 (all_t c6 (all_t c6 (all_f c16 all_nil))))))))))))))
                    have hs0 : (turns (hds 15 3610) 0 3610 (evC byref (evCall F S4 (m + 24)) (m + 24) 0 (hds 15) lbu15_0) (m + 23) p15_e13 [(.cells [(.d (.sl (.int .i64) x0.1)), (.d (.sl (.int .i64) x0.2))]), (.arr (.pair .str .str) ([] : List ((List UInt8) × (List UInt8))) true)]).run = some (.exit 0, p15_e4, [(.cells [(.d (.sl (.int .i64) x0.1)), (.d (.sl (.int .i64) x0.2))]), (.arr (.pair .str .str) [(([98] : List UInt8), (p15_k2 x0))] true)]) := Eq.mp (by kernel_rfl) hp1
                    have hp0 := turns_step ht0 hs0
                    exact Eq.trans (Eq.mp (by kernel_rfl) hp0) hq
                  cases hp
              · skip
                cases h
            · skip
              cases h
          · skip
            cases h
        · skip
          refine ite_cases h (fun c34 h => ?_) (fun c34 h => ?_)
          · skip
            refine ite_cases h (fun c44 h => ?_) (fun c44 h => ?_)
            · skip
              refine ite_cases h (fun c45 h => ?_) (fun c45 h => ?_)
              · skip
                refine ite_cases h (fun c47 h => ?_) (fun c47 h => ?_)
                · skip
                  refine ite_cases h (fun c48 h => ?_) (fun c48 h => ?_)
                  · skip
                    cases h
                    refine ⟨(.d (.sl (.pair .str .str) [(([99] : List UInt8), (p15_k3 x0))])), [], runT_ok (LS := (fun k => if k = 3610 then some (.exit 0, p15_e4, [(.cells [(.d (.sl (.int .i64) x0.1)), (.d (.sl (.int .i64) x0.2))]), (.arr (.pair .str .str) [(([99] : List UInt8), (p15_k3 x0))] true)]) else none)) (fn := fn15) (vis := [(3610, p15_e6, [(.cells [(.d (.sl (.int .i64) x0.1)), (.d (.sl (.int .i64) x0.2))]), (.arr (.pair .str .str) ([] : List ((List UInt8) × (List UInt8))) true)])]) (by kernel_rfl) rfl (by kernel_rfl) (M.run_of_path _ [true, true, true, true] _ _ (by kernel_rfl) (all_t rfl (all_t rfl (all_t rfl (all_t rfl all_nil))))) ?_, by simp, (wkR.one (wkV.one (wk1.eq rfl))), trivial⟩
                    intro p hp p2 hq
                    rcases List.mem_cons.1 hp with rfl | hp
                    · skip
                      have ht3 : (turn (hds 15 3610) 0 3610 (evC byref (evCall F S4 (m + 24)) (m + 24) 0 (hds 15) lbu15_0) p15_e12 [(.cells [(.d (.sl (.int .i64) x0.1)), (.d (.sl (.int .i64) x0.2))]), (.arr (.pair .str .str) [(([99] : List UInt8), (p15_k3 x0))] true)]).run = some (.exit 0, p15_e4, [(.cells [(.d (.sl (.int .i64) x0.1)), (.d (.sl (.int .i64) x0.2))]), (.arr (.pair .str .str) [(([99] : List UInt8), (p15_k3 x0))] true)]) := M.run_of_path _ [false] _ _ (by kernel_rfl) (all_f Bool.false_ne_true all_nil)
                      have hp3 := turns_last (n := m + 20) (by simp) ht3
                      have ht2 : (turn (hds 15 3610) 0 3610 (evC byref (evCall F S4 (m + 24)) (m + 24) 0 (hds 15) lbu15_0) p15_e14 [(.cells [(.d (.sl (.int .i64) x0.1)), (.d (.sl (.int .i64) x0.2))]), (.arr (.pair .str .str) ([] : List ((List UInt8) × (List UInt8))) true)]).run = some (.normal, p15_e12, [(.cells [(.d (.sl (.int .i64) x0.1)), (.d (.sl (.int .i64) x0.2))]), (.arr (.pair .str .str) [(([99] : List UInt8), (p15_k3 x0))] true)]) := M.run_of_path _ [true, true, true, true, true, true, true, true, true, true, true, true, true, true, true, true, true, true, true, true, true] _ _ (by kernel_rfl) (all_t rfl (all_t rfl (all_t rfl (all_t c34 (all_t c34 (all_t c34 (all_t c34 (all_t rfl (all_t c34 (all_t c34 (all_t c34 (all_t c34 (all_t c34 (all_t c44 (all_t c45 (all_t rfl (all_t c47 (all_t c48 (all_t rfl (all_t rfl (all_t rfl all_nil)))))))))))))))))))))
                      have hs2 : (turns (hds 15 3610) 0 3610 (evC byref (evCall F S4 (m + 24)) (m + 24) 0 (hds 15) lbu15_0) (m + 21) p15_e12 [(.cells [(.d (.sl (.int .i64) x0.1)), (.d (.sl (.int .i64) x0.2))]), (.arr (.pair .str .str) [(([99] : List UInt8), (p15_k3 x0))] true)]).run = some (.exit 0, p15_e4, [(.cells [(.d (.sl (.int .i64) x0.1)), (.d (.sl (.int .i64) x0.2))]), (.arr (.pair .str .str) [(([99] : List UInt8), (p15_k3 x0))] true)]) := Eq.mp (by kernel_rfl) hp3
                      have hp2 := turns_step ht2 hs2
                      have ht1 : (turn (hds 15 3610) 0 3610 (evC byref (evCall F S4 (m + 24)) (m + 24) 0 (hds 15) lbu15_0) p15_e13 [(.cells [(.d (.sl (.int .i64) x0.1)), (.d (.sl (.int .i64) x0.2))]), (.arr (.pair .str .str) ([] : List ((List UInt8) × (List UInt8))) true)]).run = some (.normal, p15_e14, [(.cells [(.d (.sl (.int .i64) x0.1)), (.d (.sl (.int .i64) x0.2))]), (.arr (.pair .str .str) ([] : List ((List UInt8) × (List UInt8))) true)]) := M.run_of_path _ [true, true, true, true, true, true, true, true, true, true, true, true, true, false] _ _ (by kernel_rfl) (all_t rfl (all_t rfl (all_t rfl (all_t c20 (all_t c20 (all_t c20 (all_t c20 (all_t rfl (all_t c20 (all_t c20 (all_t c20 (all_t c20 (all_t c20 (all_f c30 all_nil))))))))))))))
                      have hs1 : (turns (hds 15 3610) 0 3610 (evC byref (evCall F S4 (m + 24)) (m + 24) 0 (hds 15) lbu15_0) (m + 22) p15_e14 [(.cells [(.d (.sl (.int .i64) x0.1)), (.d (.sl (.int .i64) x0.2))]), (.arr (.pair .str .str) ([] : List ((List UInt8) × (List UInt8))) true)]).run = some (.exit 0, p15_e4, [(.cells [(.d (.sl (.int .i64) x0.1)), (.d (.sl (.int .i64) x0.2))]), (.arr (.pair .str .str) [(([99] : List UInt8), (p15_k3 x0))] true)]) := Eq.mp (by kernel_rfl) hp2
                      have hp1 := turns_step ht1 hs1
                      have ht0 : (turn (hds 15 3610) 0 3610 (evC byref (evCall F S4 (m + 24)) (m + 24) 0 (hds 15) lbu15_0) p15_e6 [(.cells [(.d (.sl (.int .i64) x0.1)), (.d (.sl (.int .i64) x0.2))]), (.arr (.pair .str .str) ([] : List ((List UInt8) × (List UInt8))) true)]).run = some (.normal, p15_e13, [(.cells [(.d (.sl (.int .i64) x0.1)), (.d (.sl (.int .i64) x0.2))]), (.arr (.pair .str .str) ([] : List ((List UInt8) × (List UInt8))) true)]) := M.run_of_path _ [true, true, true, true, true, true, true, true, true, true, true, true, true, false] _ _ (by kernel_rfl) (all_t rfl (all_t rfl (all_t rfl (all_t c6 (all_t c6 (all_t c6 (all_t c6 (all_t rfl (all_t c6 (all_t c6 (all_t c6 (all_t c6 (all_t c6 (all_f c16 all_nil))))))))))))))
                      have hs0 : (turns (hds 15 3610) 0 3610 (evC byref (evCall F S4 (m + 24)) (m + 24) 0 (hds 15) lbu15_0) (m + 23) p15_e13 [(.cells [(.d (.sl (.int .i64) x0.1)), (.d (.sl (.int .i64) x0.2))]), (.arr (.pair .str .str) ([] : List ((List UInt8) × (List UInt8))) true)]).run = some (.exit 0, p15_e4, [(.cells [(.d (.sl (.int .i64) x0.1)), (.d (.sl (.int .i64) x0.2))]), (.arr (.pair .str .str) [(([99] : List UInt8), (p15_k3 x0))] true)]) := Eq.mp (by kernel_rfl) hp1
                      have hp0 := turns_step ht0 hs0
                      exact Eq.trans (Eq.mp (by kernel_rfl) hp0) hq
                    cases hp
                  · skip
                    cases h
                · skip
                  cases h
              · skip
                cases h
            · skip
              cases h
              refine ⟨(.d (.sl (.pair .str .str) ([] : List ((List UInt8) × (List UInt8))))), [], runT_ok (LS := (fun k => if k = 3610 then some (.exit 0, p15_e5, [(.cells [(.d (.sl (.int .i64) x0.1)), (.d (.sl (.int .i64) x0.2))]), (.arr (.pair .str .str) ([] : List ((List UInt8) × (List UInt8))) true)]) else none)) (fn := fn15) (vis := [(3610, p15_e6, [(.cells [(.d (.sl (.int .i64) x0.1)), (.d (.sl (.int .i64) x0.2))]), (.arr (.pair .str .str) ([] : List ((List UInt8) × (List UInt8))) true)])]) (by kernel_rfl) rfl (by kernel_rfl) (M.run_of_path _ [true, true, true, true] _ _ (by kernel_rfl) (all_t rfl (all_t rfl (all_t rfl (all_t rfl all_nil))))) ?_, by simp, (wkR.one (wkV.one (wk1.eq rfl))), trivial⟩
              intro p hp p2 hq
              rcases List.mem_cons.1 hp with rfl | hp
              · skip
                have ht3 : (turn (hds 15 3610) 0 3610 (evC byref (evCall F S4 (m + 24)) (m + 24) 0 (hds 15) lbu15_0) p15_e15 [(.cells [(.d (.sl (.int .i64) x0.1)), (.d (.sl (.int .i64) x0.2))]), (.arr (.pair .str .str) ([] : List ((List UInt8) × (List UInt8))) true)]).run = some (.exit 0, p15_e5, [(.cells [(.d (.sl (.int .i64) x0.1)), (.d (.sl (.int .i64) x0.2))]), (.arr (.pair .str .str) ([] : List ((List UInt8) × (List UInt8))) true)]) := M.run_of_path _ [false] _ _ (by kernel_rfl) (all_f Bool.false_ne_true all_nil)
                have hp3 := turns_last (n := m + 20) (by simp) ht3
                have ht2 : (turn (hds 15 3610) 0 3610 (evC byref (evCall F S4 (m + 24)) (m + 24) 0 (hds 15) lbu15_0) p15_e14 [(.cells [(.d (.sl (.int .i64) x0.1)), (.d (.sl (.int .i64) x0.2))]), (.arr (.pair .str .str) ([] : List ((List UInt8) × (List UInt8))) true)]).run = some (.normal, p15_e15, [(.cells [(.d (.sl (.int .i64) x0.1)), (.d (.sl (.int .i64) x0.2))]), (.arr (.pair .str .str) ([] : List ((List UInt8) × (List UInt8))) true)]) := M.run_of_path _ [true, true, true, true, true, true, true, true, true, true, true, true, true, false] _ _ (by kernel_rfl) (all_t rfl (all_t rfl (all_t rfl (all_t c34 (all_t c34 (all_t c34 (all_t c34 (all_t rfl (all_t c34 (all_t c34 (all_t c34 (all_t c34 (all_t c34 (all_f c44 all_nil))))))))))))))
                have hs2 : (turns (hds 15 3610) 0 3610 (evC byref (evCall F S4 (m + 24)) (m + 24) 0 (hds 15) lbu15_0) (m + 21) p15_e15 [(.cells [(.d (.sl (.int .i64) x0.1)), (.d (.sl (.int .i64) x0.2))]), (.arr (.pair .str .str) ([] : List ((List UInt8) × (List UInt8))) true)]).run = some (.exit 0, p15_e5, [(.cells [(.d (.sl (.int .i64) x0.1)), (.d (.sl (.int .i64) x0.2))]), (.arr (.pair .str .str) ([] : List ((List UInt8) × (List UInt8))) true)]) := Eq.mp (by kernel_rfl) hp3
                have hp2 := turns_step ht2 hs2
                have ht1 : (turn (hds 15 3610) 0 3610 (evC byref (evCall F S4 (m + 24)) (m + 24) 0 (hds 15) lbu15_0) p15_e13 [(.cells [(.d (.sl (.int .i64) x0.1)), (.d (.sl (.int .i64) x0.2))]), (.arr (.pair .str .str) ([] : List ((List UInt8) × (List UInt8))) true)]).run = some (.normal, p15_e14, [(.cells [(.d (.sl (.int .i64) x0.1)), (.d (.sl (.int .i64) x0.2))]), (.arr (.pair .str .str) ([] : List ((List UInt8) × (List UInt8))) true)]) := M.run_of_path _ [true, true, true, true, true, true, true, true, true, true, true, true, true, false] _ _ (by kernel_rfl) (all_t rfl (all_t rfl (all_t rfl (all_t c20 (all_t c20 (all_t c20 (all_t c20 (all_t rfl (all_t c20 (all_t c20 (all_t c20 (all_t c20 (all_t c20 (all_f c30 all_nil))))))))))))))
                have hs1 : (turns (hds 15 3610) 0 3610 (evC byref (evCall F S4 (m + 24)) (m + 24) 0 (hds 15) lbu15_0) (m + 22) p15_e14 [(.cells [(.d (.sl (.int .i64) x0.1)), (.d (.sl (.int .i64) x0.2))]), (.arr (.pair .str .str) ([] : List ((List UInt8) × (List UInt8))) true)]).run = some (.exit 0, p15_e5, [(.cells [(.d (.sl (.int .i64) x0.1)), (.d (.sl (.int .i64) x0.2))]), (.arr (.pair .str .str) ([] : List ((List UInt8) × (List UInt8))) true)]) := Eq.mp (by kernel_rfl) hp2
                have hp1 := turns_step ht1 hs1
                have ht0 : (turn (hds 15 3610) 0 3610 (evC byref (evCall F S4 (m + 24)) (m + 24) 0 (hds 15) lbu15_0) p15_e6 [(.cells [(.d (.sl (.int .i64) x0.1)), (.d (.sl (.int .i64) x0.2))]), (.arr (.pair .str .str) ([] : List ((List UInt8) × (List UInt8))) true)]).run = some (.normal, p15_e13, [(.cells [(.d (.sl (.int .i64) x0.1)), (.d (.sl (.int .i64) x0.2))]), (.arr (.pair .str .str) ([] : List ((List UInt8) × (List UInt8))) true)]) := M.run_of_path _ [true, true, true, true, true, true, true, true, true, true, true, true, true, false] _ _ (by kernel_rfl) (all_t rfl (all_t rfl (all_t rfl (all_t c6 (all_t c6 (all_t c6 (all_t c6 (all_t rfl (all_t c6 (all_t c6 (all_t c6 (all_t c6 (all_t c6 (all_f c16 all_nil))))))))))))))
                have hs0 : (turns (hds 15 3610) 0 3610 (evC byref (evCall F S4 (m + 24)) (m + 24) 0 (hds 15) lbu15_0) (m + 23) p15_e13 [(.cells [(.d (.sl (.int .i64) x0.1)), (.d (.sl (.int .i64) x0.2))]), (.arr (.pair .str .str) ([] : List ((List UInt8) × (List UInt8))) true)]).run = some (.exit 0, p15_e5, [(.cells [(.d (.sl (.int .i64) x0.1)), (.d (.sl (.int .i64) x0.2))]), (.arr (.pair .str .str) ([] : List ((List UInt8) × (List UInt8))) true)]) := Eq.mp (by kernel_rfl) hp1
                have hp0 := turns_step ht0 hs0
                exact Eq.trans (Eq.mp (by kernel_rfl) hp0) hq
              cases hp
          · skip
            cases h
            refine ⟨(.d (.sl (.pair .str .str) ([] : List ((List UInt8) × (List UInt8))))), [], runT_ok (LS := (fun k => if k = 3610 then some (.exit 0, p15_e5, [(.cells [(.d (.sl (.int .i64) x0.1)), (.d (.sl (.int .i64) x0.2))]), (.arr (.pair .str .str) ([] : List ((List UInt8) × (List UInt8))) true)]) else none)) (fn := fn15) (vis := [(3610, p15_e6, [(.cells [(.d (.sl (.int .i64) x0.1)), (.d (.sl (.int .i64) x0.2))]), (.arr (.pair .str .str) ([] : List ((List UInt8) × (List UInt8))) true)])]) (by kernel_rfl) rfl (by kernel_rfl) (M.run_of_path _ [true, true, true, true] _ _ (by kernel_rfl) (all_t rfl (all_t rfl (all_t rfl (all_t rfl all_nil))))) ?_, by simp, (wkR.one (wkV.one (wk1.eq rfl))), trivial⟩
            intro p hp p2 hq
            rcases List.mem_cons.1 hp with rfl | hp
            · skip
              have ht3 : (turn (hds 15 3610) 0 3610 (evC byref (evCall F S4 (m + 24)) (m + 24) 0 (hds 15) lbu15_0) p15_e15 [(.cells [(.d (.sl (.int .i64) x0.1)), (.d (.sl (.int .i64) x0.2))]), (.arr (.pair .str .str) ([] : List ((List UInt8) × (List UInt8))) true)]).run = some (.exit 0, p15_e5, [(.cells [(.d (.sl (.int .i64) x0.1)), (.d (.sl (.int .i64) x0.2))]), (.arr (.pair .str .str) ([] : List ((List UInt8) × (List UInt8))) true)]) := M.run_of_path _ [false] _ _ (by kernel_rfl) (all_f Bool.false_ne_true all_nil)
              have hp3 := turns_last (n := m + 20) (by simp) ht3
              have ht2 : (turn (hds 15 3610) 0 3610 (evC byref (evCall F S4 (m + 24)) (m + 24) 0 (hds 15) lbu15_0) p15_e14 [(.cells [(.d (.sl (.int .i64) x0.1)), (.d (.sl (.int .i64) x0.2))]), (.arr (.pair .str .str) ([] : List ((List UInt8) × (List UInt8))) true)]).run = some (.normal, p15_e15, [(.cells [(.d (.sl (.int .i64) x0.1)), (.d (.sl (.int .i64) x0.2))]), (.arr (.pair .str .str) ([] : List ((List UInt8) × (List UInt8))) true)]) := M.run_of_path _ [true, true, true, false, false, false, false, false, false, false, false, false] _ _ (by kernel_rfl) (all_t rfl (all_t rfl (all_t rfl (all_f c34 (all_f c34 (all_f c34 (all_f c34 (all_f c34 (all_f c34 (all_f c34 (all_f c34 (all_f Bool.false_ne_true all_nil))))))))))))
              have hs2 : (turns (hds 15 3610) 0 3610 (evC byref (evCall F S4 (m + 24)) (m + 24) 0 (hds 15) lbu15_0) (m + 21) p15_e15 [(.cells [(.d (.sl (.int .i64) x0.1)), (.d (.sl (.int .i64) x0.2))]), (.arr (.pair .str .str) ([] : List ((List UInt8) × (List UInt8))) true)]).run = some (.exit 0, p15_e5, [(.cells [(.d (.sl (.int .i64) x0.1)), (.d (.sl (.int .i64) x0.2))]), (.arr (.pair .str .str) ([] : List ((List UInt8) × (List UInt8))) true)]) := Eq.mp (by kernel_rfl) hp3
              have hp2 := turns_step ht2 hs2
              have ht1 : (turn (hds 15 3610) 0 3610 (evC byref (evCall F S4 (m + 24)) (m + 24) 0 (hds 15) lbu15_0) p15_e13 [(.cells [(.d (.sl (.int .i64) x0.1)), (.d (.sl (.int .i64) x0.2))]), (.arr (.pair .str .str) ([] : List ((List UInt8) × (List UInt8))) true)]).run = some (.normal, p15_e14, [(.cells [(.d (.sl (.int .i64) x0.1)), (.d (.sl (.int .i64) x0.2))]), (.arr (.pair .str .str) ([] : List ((List UInt8) × (List UInt8))) true)]) := M.run_of_path _ [true, true, true, true, true, true, true, true, true, true, true, true, true, false] _ _ (by kernel_rfl) (all_t rfl (all_t rfl (all_t rfl (all_t c20 (all_t c20 (all_t c20 (all_t c20 (all_t rfl (all_t c20 (all_t c20 (all_t c20 (all_t c20 (all_t c20 (all_f c30 all_nil))))))))))))))
              have hs1 : (turns (hds 15 3610) 0 3610 (evC byref (evCall F S4 (m + 24)) (m + 24) 0 (hds 15) lbu15_0) (m + 22) p15_e14 [(.cells [(.d (.sl (.int .i64) x0.1)), (.d (.sl (.int .i64) x0.2))]), (.arr (.pair .str .str) ([] : List ((List UInt8) × (List UInt8))) true)]).run = some (.exit 0, p15_e5, [(.cells [(.d (.sl (.int .i64) x0.1)), (.d (.sl (.int .i64) x0.2))]), (.arr (.pair .str .str) ([] : List ((List UInt8) × (List UInt8))) true)]) := Eq.mp (by kernel_rfl) hp2
              have hp1 := turns_step ht1 hs1
              have ht0 : (turn (hds 15 3610) 0 3610 (evC byref (evCall F S4 (m + 24)) (m + 24) 0 (hds 15) lbu15_0) p15_e6 [(.cells [(.d (.sl (.int .i64) x0.1)), (.d (.sl (.int .i64) x0.2))]), (.arr (.pair .str .str) ([] : List ((List UInt8) × (List UInt8))) true)]).run = some (.normal, p15_e13, [(.cells [(.d (.sl (.int .i64) x0.1)), (.d (.sl (.int .i64) x0.2))]), (.arr (.pair .str .str) ([] : List ((List UInt8) × (List UInt8))) true)]) := M.run_of_path _ [true, true, true, true, true, true, true, true, true, true, true, true, true, false] _ _ (by kernel_rfl) (all_t rfl (all_t rfl (all_t rfl (all_t c6 (all_t c6 (all_t c6 (all_t c6 (all_t rfl (all_t c6 (all_t c6 (all_t c6 (all_t c6 (all_t c6 (all_f c16 all_nil))))))))))))))
              have hs0 : (turns (hds 15 3610) 0 3610 (evC byref (evCall F S4 (m + 24)) (m + 24) 0 (hds 15) lbu15_0) (m + 23) p15_e13 [(.cells [(.d (.sl (.int .i64) x0.1)), (.d (.sl (.int .i64) x0.2))]), (.arr (.pair .str .str) ([] : List ((List UInt8) × (List UInt8))) true)]).run = some (.exit 0, p15_e5, [(.cells [(.d (.sl (.int .i64) x0.1)), (.d (.sl (.int .i64) x0.2))]), (.arr (.pair .str .str) ([] : List ((List UInt8) × (List UInt8))) true)]) := Eq.mp (by kernel_rfl) hp1
              have hp0 := turns_step ht0 hs0
              exact Eq.trans (Eq.mp (by kernel_rfl) hp0) hq
            cases hp
      · skip
        refine ite_cases h (fun c32 h => ?_) (fun c32 h => ?_)
        · skip
          refine ite_cases h (fun c42 h => ?_) (fun c42 h => ?_)
          · skip
            refine ite_cases h (fun c43 h => ?_) (fun c43 h => ?_)
            · skip
              refine ite_cases h (fun c45 h => ?_) (fun c45 h => ?_)
              · skip
                refine ite_cases h (fun c46 h => ?_) (fun c46 h => ?_)
                · skip
                  cases h
                  refine ⟨(.d (.sl (.pair .str .str) [(([99] : List UInt8), (p15_k3 x0))])), [], runT_ok (LS := (fun k => if k = 3610 then some (.exit 0, p15_e4, [(.cells [(.d (.sl (.int .i64) x0.1)), (.d (.sl (.int .i64) x0.2))]), (.arr (.pair .str .str) [(([99] : List UInt8), (p15_k3 x0))] true)]) else none)) (fn := fn15) (vis := [(3610, p15_e6, [(.cells [(.d (.sl (.int .i64) x0.1)), (.d (.sl (.int .i64) x0.2))]), (.arr (.pair .str .str) ([] : List ((List UInt8) × (List UInt8))) true)])]) (by kernel_rfl) rfl (by kernel_rfl) (M.run_of_path _ [true, true, true, true] _ _ (by kernel_rfl) (all_t rfl (all_t rfl (all_t rfl (all_t rfl all_nil))))) ?_, by simp, (wkR.one (wkV.one (wk1.eq rfl))), trivial⟩
                  intro p hp p2 hq
                  rcases List.mem_cons.1 hp with rfl | hp
                  · skip
                    have ht3 : (turn (hds 15 3610) 0 3610 (evC byref (evCall F S4 (m + 24)) (m + 24) 0 (hds 15) lbu15_0) p15_e12 [(.cells [(.d (.sl (.int .i64) x0.1)), (.d (.sl (.int .i64) x0.2))]), (.arr (.pair .str .str) [(([99] : List UInt8), (p15_k3 x0))] true)]).run = some (.exit 0, p15_e4, [(.cells [(.d (.sl (.int .i64) x0.1)), (.d (.sl (.int .i64) x0.2))]), (.arr (.pair .str .str) [(([99] : List UInt8), (p15_k3 x0))] true)]) := M.run_of_path _ [false] _ _ (by kernel_rfl) (all_f Bool.false_ne_true all_nil)
                    have hp3 := turns_last (n := m + 20) (by simp) ht3
                    have ht2 : (turn (hds 15 3610) 0 3610 (evC byref (evCall F S4 (m + 24)) (m + 24) 0 (hds 15) lbu15_0) p15_e14 [(.cells [(.d (.sl (.int .i64) x0.1)), (.d (.sl (.int .i64) x0.2))]), (.arr (.pair .str .str) ([] : List ((List UInt8) × (List UInt8))) true)]).run = some (.normal, p15_e12, [(.cells [(.d (.sl (.int .i64) x0.1)), (.d (.sl (.int .i64) x0.2))]), (.arr (.pair .str .str) [(([99] : List UInt8), (p15_k3 x0))] true)]) := M.run_of_path _ [true, true, true, true, true, true, true, true, true, true, true, true, true, true, true, true, true, true, true, true, true] _ _ (by kernel_rfl) (all_t rfl (all_t rfl (all_t rfl (all_t c32 (all_t c32 (all_t c32 (all_t c32 (all_t rfl (all_t c32 (all_t c32 (all_t c32 (all_t c32 (all_t c32 (all_t c42 (all_t c43 (all_t rfl (all_t c45 (all_t c46 (all_t rfl (all_t rfl (all_t rfl all_nil)))))))))))))))))))))
                    have hs2 : (turns (hds 15 3610) 0 3610 (evC byref (evCall F S4 (m + 24)) (m + 24) 0 (hds 15) lbu15_0) (m + 21) p15_e12 [(.cells [(.d (.sl (.int .i64) x0.1)), (.d (.sl (.int .i64) x0.2))]), (.arr (.pair .str .str) [(([99] : List UInt8), (p15_k3 x0))] true)]).run = some (.exit 0, p15_e4, [(.cells [(.d (.sl (.int .i64) x0.1)), (.d (.sl (.int .i64) x0.2))]), (.arr (.pair .str .str) [(([99] : List UInt8), (p15_k3 x0))] true)]) := Eq.mp (by kernel_rfl) hp3
                    have hp2 := turns_step ht2 hs2
                    have ht1 : (turn (hds 15 3610) 0 3610 (evC byref (evCall F S4 (m + 24)) (m + 24) 0 (hds 15) lbu15_0) p15_e13 [(.cells [(.d (.sl (.int .i64) x0.1)), (.d (.sl (.int .i64) x0.2))]), (.arr (.pair .str .str) ([] : List ((List UInt8) × (List UInt8))) true)]).run = some (.normal, p15_e14, [(.cells [(.d (.sl (.int .i64) x0.1)), (.d (.sl (.int .i64) x0.2))]), (.arr (.pair .str .str) ([] : List ((List UInt8) × (List UInt8))) true)]) := M.run_of_path _ [true, true, true, false, false, false, false, false, false, false, false, false] _ _ (by kernel_rfl) (all_t rfl (all_t rfl (all_t rfl (all_f c20 (all_f c20 (all_f c20 (all_f c20 (all_f c20 (all_f c20 (all_f c20 (all_f c20 (all_f Bool.false_ne_true all_nil))))))))))))
                    have hs1 : (turns (hds 15 3610) 0 3610 (evC byref (evCall F S4 (m + 24)) (m + 24) 0 (hds 15) lbu15_0) (m + 22) p15_e14 [(.cells [(.d (.sl (.int .i64) x0.1)), (.d (.sl (.int .i64) x0.2))]), (.arr (.pair .str .str) ([] : List ((List UInt8) × (List UInt8))) true)]).run = some (.exit 0, p15_e4, [(.cells [(.d (.sl (.int .i64) x0.1)), (.d (.sl (.int .i64) x0.2))]), (.arr (.pair .str .str) [(([99] : List UInt8), (p15_k3 x0))] true)]) := Eq.mp (by kernel_rfl) hp2
                    have hp1 := turns_step ht1 hs1
                    have ht0 : (turn (hds 15 3610) 0 3610 (evC byref (evCall F S4 (m + 24)) (m + 24) 0 (hds 15) lbu15_0) p15_e6 [(.cells [(.d (.sl (.int .i64) x0.1)), (.d (.sl (.int .i64) x0.2))]), (.arr (.pair .str .str) ([] : List ((List UInt8) × (List UInt8))) true)]).run = some (.normal, p15_e13, [(.cells [(.d (.sl (.int .i64) x0.1)), (.d (.sl (.int .i64) x0.2))]), (.arr (.pair .str .str) ([] : List ((List UInt8) × (List UInt8))) true)]) := M.run_of_path _ [true, true, true, true, true, true, true, true, true, true, true, true, true, false] _ _ (by kernel_rfl) (all_t rfl (all_t rfl (all_t rfl (all_t c6 (all_t c6 (all_t c6 (all_t c6 (all_t rfl (all_t c6 (all_t c6 (all_t c6 (all_t c6 (all_t c6 (all_f c16 all_nil))))))))))))))
                    have hs0 : (turns (hds 15 3610) 0 3610 (evC byref (evCall F S4 (m + 24)) (m + 24) 0 (hds 15) lbu15_0) (m + 23) p15_e13 [(.cells [(.d (.sl (.int .i64) x0.1)), (.d (.sl (.int .i64) x0.2))]), (.arr (.pair .str .str) ([] : List ((List UInt8) × (List UInt8))) true)]).run = some (.exit 0, p15_e4, [(.cells [(.d (.sl (.int .i64) x0.1)), (.d (.sl (.int .i64) x0.2))]), (.arr (.pair .str .str) [(([99] : List UInt8), (p15_k3 x0))] true)]) := Eq.mp (by kernel_rfl) hp1
                    have hp0 := turns_step ht0 hs0
                    exact Eq.trans (Eq.mp (by kernel_rfl) hp0) hq
                  cases hp
                · skip
                  cases h
              · skip
                cases h
            · skip
              cases h
          · skip
            cases h
            refine ⟨(.d (.sl (.pair .str .str) ([] : List ((List UInt8) × (List UInt8))))), [], runT_ok (LS := (fun k => if k = 3610 then some (.exit 0, p15_e5, [(.cells [(.d (.sl (.int .i64) x0.1)), (.d (.sl (.int .i64) x0.2))]), (.arr (.pair .str .str) ([] : List ((List UInt8) × (List UInt8))) true)]) else none)) (fn := fn15) (vis := [(3610, p15_e6, [(.cells [(.d (.sl (.int .i64) x0.1)), (.d (.sl (.int .i64) x0.2))]), (.arr (.pair .str .str) ([] : List ((List UInt8) × (List UInt8))) true)])]) (by kernel_rfl) rfl (by kernel_rfl) (M.run_of_path _ [true, true, true, true] _ _ (by kernel_rfl) (all_t rfl (all_t rfl (all_t rfl (all_t rfl all_nil))))) ?_, by simp, (wkR.one (wkV.one (wk1.eq rfl))), trivial⟩
            intro p hp p2 hq
            rcases List.mem_cons.1 hp with rfl | hp
            · skip
              have ht3 : (turn (hds 15 3610) 0 3610 (evC byref (evCall F S4 (m + 24)) (m + 24) 0 (hds 15) lbu15_0) p15_e15 [(.cells [(.d (.sl (.int .i64) x0.1)), (.d (.sl (.int .i64) x0.2))]), (.arr (.pair .str .str) ([] : List ((List UInt8) × (List UInt8))) true)]).run = some (.exit 0, p15_e5, [(.cells [(.d (.sl (.int .i64) x0.1)), (.d (.sl (.int .i64) x0.2))]), (.arr (.pair .str .str) ([] : List ((List UInt8) × (List UInt8))) true)]) := M.run_of_path _ [false] _ _ (by kernel_rfl) (all_f Bool.false_ne_true all_nil)
              have hp3 := turns_last (n := m + 20) (by simp) ht3
              have ht2 : (turn (hds 15 3610) 0 3610 (evC byref (evCall F S4 (m + 24)) (m + 24) 0 (hds 15) lbu15_0) p15_e14 [(.cells [(.d (.sl (.int .i64) x0.1)), (.d (.sl (.int .i64) x0.2))]), (.arr (.pair .str .str) ([] : List ((List UInt8) × (List UInt8))) true)]).run = some (.normal, p15_e15, [(.cells [(.d (.sl (.int .i64) x0.1)), (.d (.sl (.int .i64) x0.2))]), (.arr (.pair .str .str) ([] : List ((List UInt8) × (List UInt8))) true)]) := M.run_of_path _ [true, true, true, true, true, true, true, true, true, true, true, true, true, false] _ _ (by kernel_rfl) (all_t rfl (all_t rfl (all_t rfl (all_t c32 (all_t c32 (all_t c32 (all_t c32 (all_t rfl (all_t c32 (all_t c32 (all_t c32 (all_t c32 (all_t c32 (all_f c42 all_nil))))))))))))))
              have hs2 : (turns (hds 15 3610) 0 3610 (evC byref (evCall F S4 (m + 24)) (m + 24) 0 (hds 15) lbu15_0) (m + 21) p15_e15 [(.cells [(.d (.sl (.int .i64) x0.1)), (.d (.sl (.int .i64) x0.2))]), (.arr (.pair .str .str) ([] : List ((List UInt8) × (List UInt8))) true)]).run = some (.exit 0, p15_e5, [(.cells [(.d (.sl (.int .i64) x0.1)), (.d (.sl (.int .i64) x0.2))]), (.arr (.pair .str .str) ([] : List ((List UInt8) × (List UInt8))) true)]) := Eq.mp (by kernel_rfl) hp3
              have hp2 := turns_step ht2 hs2
              have ht1 : (turn (hds 15 3610) 0 3610 (evC byref (evCall F S4 (m + 24)) (m + 24) 0 (hds 15) lbu15_0) p15_e13 [(.cells [(.d (.sl (.int .i64) x0.1)), (.d (.sl (.int .i64) x0.2))]), (.arr (.pair .str .str) ([] : List ((List UInt8) × (List UInt8))) true)]).run = some (.normal, p15_e14, [(.cells [(.d (.sl (.int .i64) x0.1)), (.d (.sl (.int .i64) x0.2))]), (.arr (.pair .str .str) ([] : List ((List UInt8) × (List UInt8))) true)]) := M.run_of_path _ [true, true, true, false, false, false, false, false, false, false, false, false] _ _ (by kernel_rfl) (all_t rfl (all_t rfl (all_t rfl (all_f c20 (all_f c20 (all_f c20 (all_f c20 (all_f c20 (all_f c20 (all_f c20 (all_f c20 (all_f Bool.false_ne_true all_nil))))))))))))
              have hs1 : (turns (hds 15 3610) 0 3610 (evC byref (evCall F S4 (m + 24)) (m + 24) 0 (hds 15) lbu15_0) (m + 22) p15_e14 [(.cells [(.d (.sl (.int .i64) x0.1)), (.d (.sl (.int .i64) x0.2))]), (.arr (.pair .str .str) ([] : List ((List UInt8) × (List UInt8))) true)]).run = some (.exit 0, p15_e5, [(.cells [(.d (.sl (.int .i64) x0.1)), (.d (.sl (.int .i64) x0.2))]), (.arr (.pair .str .str) ([] : List ((List UInt8) × (List UInt8))) true)]) := Eq.mp (by kernel_rfl) hp2
              have hp1 := turns_step ht1 hs1
              have ht0 : (turn (hds 15 3610) 0 3610 (evC byref (evCall F S4 (m + 24)) (m + 24) 0 (hds 15) lbu15_0) p15_e6 [(.cells [(.d (.sl (.int .i64) x0.1)), (.d (.sl (.int .i64) x0.2))]), (.arr (.pair .str .str) ([] : List ((List UInt8) × (List UInt8))) true)]).run = some (.normal, p15_e13, [(.cells [(.d (.sl (.int .i64) x0.1)), (.d (.sl (.int .i64) x0.2))]), (.arr (.pair .str .str) ([] : List ((List UInt8) × (List UInt8))) true)]) := M.run_of_path _ [true, true, true, true, true, true, true, true, true, true, true, true, true, false] _ _ (by kernel_rfl) (all_t rfl (all_t rfl (all_t rfl (all_t c6 (all_t c6 (all_t c6 (all_t c6 (all_t rfl (all_t c6 (all_t c6 (all_t c6 (all_t c6 (all_t c6 (all_f c16 all_nil))))))))))))))
              have hs0 : (turns (hds 15 3610) 0 3610 (evC byref (evCall F S4 (m + 24)) (m + 24) 0 (hds 15) lbu15_0) (m + 23) p15_e13 [(.cells [(.d (.sl (.int .i64) x0.1)), (.d (.sl (.int .i64) x0.2))]), (.arr (.pair .str .str) ([] : List ((List UInt8) × (List UInt8))) true)]).run = some (.exit 0, p15_e5, [(.cells [(.d (.sl (.int .i64) x0.1)), (.d (.sl (.int .i64) x0.2))]), (.arr (.pair .str .str) ([] : List ((List UInt8) × (List UInt8))) true)]) := Eq.mp (by kernel_rfl) hp1
              have hp0 := turns_step ht0 hs0
              exact Eq.trans (Eq.mp (by kernel_rfl) hp0) hq
            cases hp
        · skip
          cases h
          refine ⟨(.d (.sl (.pair .str .str) ([] : List ((List UInt8) × (List UInt8))))), [], runT_ok (LS := (fun k => if k = 3610 then some (.exit 0, p15_e5, [(.cells [(.d (.sl (.int .i64) x0.1)), (.d (.sl (.int .i64) x0.2))]), (.arr (.pair .str .str) ([] : List ((List UInt8) × (List UInt8))) true)]) else none)) (fn := fn15) (vis := [(3610, p15_e6, [(.cells [(.d (.sl (.int .i64) x0.1)), (.d (.sl (.int .i64) x0.2))]), (.arr (.pair .str .str) ([] : List ((List UInt8) × (List UInt8))) true)])]) (by kernel_rfl) rfl (by kernel_rfl) (M.run_of_path _ [true, true, true, true] _ _ (by kernel_rfl) (all_t rfl (all_t rfl (all_t rfl (all_t rfl all_nil))))) ?_, by simp, (wkR.one (wkV.one (wk1.eq rfl))), trivial⟩
          intro p hp p2 hq
          rcases List.mem_cons.1 hp with rfl | hp
          · skip
            have ht3 : (turn (hds 15 3610) 0 3610 (evC byref (evCall F S4 (m + 24)) (m + 24) 0 (hds 15) lbu15_0) p15_e15 [(.cells [(.d (.sl (.int .i64) x0.1)), (.d (.sl (.int .i64) x0.2))]), (.arr (.pair .str .str) ([] : List ((List UInt8) × (List UInt8))) true)]).run = some (.exit 0, p15_e5, [(.cells [(.d (.sl (.int .i64) x0.1)), (.d (.sl (.int .i64) x0.2))]), (.arr (.pair .str .str) ([] : List ((List UInt8) × (List UInt8))) true)]) := M.run_of_path _ [false] _ _ (by kernel_rfl) (all_f Bool.false_ne_true all_nil)
            have hp3 := turns_last (n := m + 20) (by simp) ht3
            have ht2 : (turn (hds 15 3610) 0 3610 (evC byref (evCall F S4 (m + 24)) (m + 24) 0 (hds 15) lbu15_0) p15_e14 [(.cells [(.d (.sl (.int .i64) x0.1)), (.d (.sl (.int .i64) x0.2))]), (.arr (.pair .str .str) ([] : List ((List UInt8) × (List UInt8))) true)]).run = some (.normal, p15_e15, [(.cells [(.d (.sl (.int .i64) x0.1)), (.d (.sl (.int .i64) x0.2))]), (.arr (.pair .str .str) ([] : List ((List UInt8) × (List UInt8))) true)]) := M.run_of_path _ [true, true, true, false, false, false, false, false, false, false, false, false] _ _ (by kernel_rfl) (all_t rfl (all_t rfl (all_t rfl (all_f c32 (all_f c32 (all_f c32 (all_f c32 (all_f c32 (all_f c32 (all_f c32 (all_f c32 (all_f Bool.false_ne_true all_nil))))))))))))
            have hs2 : (turns (hds 15 3610) 0 3610 (evC byref (evCall F S4 (m + 24)) (m + 24) 0 (hds 15) lbu15_0) (m + 21) p15_e15 [(.cells [(.d (.sl (.int .i64) x0.1)), (.d (.sl (.int .i64) x0.2))]), (.arr (.pair .str .str) ([] : List ((List UInt8) × (List UInt8))) true)]).run = some (.exit 0, p15_e5, [(.cells [(.d (.sl (.int .i64) x0.1)), (.d (.sl (.int .i64) x0.2))]), (.arr (.pair .str .str) ([] : List ((List UInt8) × (List UInt8))) true)]) := Eq.mp (by kernel_rfl) hp3
            have hp2 := turns_step ht2 hs2
            have ht1 : (turn (hds 15 3610) 0 3610 (evC byref (evCall F S4 (m + 24)) (m + 24) 0 (hds 15) lbu15_0) p15_e13 [(.cells [(.d (.sl (.int .i64) x0.1)), (.d (.sl (.int .i64) x0.2))]), (.arr (.pair .str .str) ([] : List ((List UInt8) × (List UInt8))) true)]).run = some (.normal, p15_e14, [(.cells [(.d (.sl (.int .i64) x0.1)), (.d (.sl (.int .i64) x0.2))]), (.arr (.pair .str .str) ([] : List ((List UInt8) × (List UInt8))) true)]) := M.run_of_path _ [true, true, true, false, false, false, false, false, false, false, false, false] _ _ (by kernel_rfl) (all_t rfl (all_t rfl (all_t rfl (all_f c20 (all_f c20 (all_f c20 (all_f c20 (all_f c20 (all_f c20 (all_f c20 (all_f c20 (all_f Bool.false_ne_true all_nil))))))))))))
            have hs1 : (turns (hds 15 3610) 0 3610 (evC byref (evCall F S4 (m + 24)) (m + 24) 0 (hds 15) lbu15_0) (m + 22) p15_e14 [(.cells [(.d (.sl (.int .i64) x0.1)), (.d (.sl (.int .i64) x0.2))]), (.arr (.pair .str .str) ([] : List ((List UInt8) × (List UInt8))) true)]).run = some (.exit 0, p15_e5, [(.cells [(.d (.sl (.int .i64) x0.1)), (.d (.sl (.int .i64) x0.2))]), (.arr (.pair .str .str) ([] : List ((List UInt8) × (List UInt8))) true)]) := Eq.mp (by kernel_rfl) hp2
            have hp1 := turns_step ht1 hs1
            have ht0 : (turn (hds 15 3610) 0 3610 (evC byref (evCall F S4 (m + 24)) (m + 24) 0 (hds 15) lbu15_0) p15_e6 [(.cells [(.d (.sl (.int .i64) x0.1)), (.d (.sl (.int .i64) x0.2))]), (.arr (.pair .str .str) ([] : List ((List UInt8) × (List UInt8))) true)]).run = some (.normal, p15_e13, [(.cells [(.d (.sl (.int .i64) x0.1)), (.d (.sl (.int .i64) x0.2))]), (.arr (.pair .str .str) ([] : List ((List UInt8) × (List UInt8))) true)]) := M.run_of_path _ [true, true, true, true, true, true, true, true, true, true, true, true, true, false] _ _ (by kernel_rfl) (all_t rfl (all_t rfl (all_t rfl (all_t c6 (all_t c6 (all_t c6 (all_t c6 (all_t rfl (all_t c6 (all_t c6 (all_t c6 (all_t c6 (all_t c6 (all_f c16 all_nil))))))))))))))
            have hs0 : (turns (hds 15 3610) 0 3610 (evC byref (evCall F S4 (m + 24)) (m + 24) 0 (hds 15) lbu15_0) (m + 23) p15_e13 [(.cells [(.d (.sl (.int .i64) x0.1)), (.d (.sl (.int .i64) x0.2))]), (.arr (.pair .str .str) ([] : List ((List UInt8) × (List UInt8))) true)]).run = some (.exit 0, p15_e5, [(.cells [(.d (.sl (.int .i64) x0.1)), (.d (.sl (.int .i64) x0.2))]), (.arr (.pair .str .str) ([] : List ((List UInt8) × (List UInt8))) true)]) := Eq.mp (by kernel_rfl) hp1
            have hp0 := turns_step ht0 hs0
            exact Eq.trans (Eq.mp (by kernel_rfl) hp0) hq
          cases hp
  · skip
    refine ite_cases h (fun c18 h => ?_) (fun c18 h => ?_)
    · skip
      refine ite_cases h (fun c28 h => ?_) (fun c28 h => ?_)
      · skip
        refine ite_cases h (fun c29 h => ?_) (fun c29 h => ?_)
        · skip
          refine ite_cases h (fun c31 h => ?_) (fun c31 h => ?_)
          · skip
            refine ite_cases h (fun c32 h => ?_) (fun c32 h => ?_)
            · skip
              refine ite_cases h (fun c39 h => ?_) (fun c39 h => ?_)
              · skip
                refine ite_cases h (fun c49 h => ?_) (fun c49 h => ?_)
                · skip
                  refine ite_cases h (fun c50 h => ?_) (fun c50 h => ?_)
                  · skip
                    refine ite_cases h (fun c52 h => ?_) (fun c52 h => ?_)
                    · skip
                      refine ite_cases h (fun c53 h => ?_) (fun c53 h => ?_)
                      · skip
                        cases h
                        refine ⟨(.d (.sl (.pair .str .str) [(([98] : List UInt8), (p15_k2 x0)), (([99] : List UInt8), (p15_k3 x0))])), [], runT_ok (LS := (fun k => if k = 3610 then some (.exit 0, p15_e3, [(.cells [(.d (.sl (.int .i64) x0.1)), (.d (.sl (.int .i64) x0.2))]), (.arr (.pair .str .str) [(([98] : List UInt8), (p15_k2 x0)), (([99] : List UInt8), (p15_k3 x0))] true)]) else none)) (fn := fn15) (vis := [(3610, p15_e6, [(.cells [(.d (.sl (.int .i64) x0.1)), (.d (.sl (.int .i64) x0.2))]), (.arr (.pair .str .str) ([] : List ((List UInt8) × (List UInt8))) true)])]) (by kernel_rfl) rfl (by kernel_rfl) (M.run_of_path _ [true, true, true, true] _ _ (by kernel_rfl) (all_t rfl (all_t rfl (all_t rfl (all_t rfl all_nil))))) ?_, by simp, (wkR.one (wkV.one (wk1.eq rfl))), trivial⟩
                        intro p hp p2 hq
                        rcases List.mem_cons.1 hp with rfl | hp
                        · skip
                          have ht3 : (turn (hds 15 3610) 0 3610 (evC byref (evCall F S4 (m + 24)) (m + 24) 0 (hds 15) lbu15_0) p15_e10 [(.cells [(.d (.sl (.int .i64) x0.1)), (.d (.sl (.int .i64) x0.2))]), (.arr (.pair .str .str) [(([98] : List UInt8), (p15_k2 x0)), (([99] : List UInt8), (p15_k3 x0))] true)]).run = some (.exit 0, p15_e3, [(.cells [(.d (.sl (.int .i64) x0.1)), (.d (.sl (.int .i64) x0.2))]), (.arr (.pair .str .str) [(([98] : List UInt8), (p15_k2 x0)), (([99] : List UInt8), (p15_k3 x0))] true)]) := M.run_of_path _ [false] _ _ (by kernel_rfl) (all_f Bool.false_ne_true all_nil)
                          have hp3 := turns_last (n := m + 20) (by simp) ht3
                          have ht2 : (turn (hds 15 3610) 0 3610 (evC byref (evCall F S4 (m + 24)) (m + 24) 0 (hds 15) lbu15_0) p15_e11 [(.cells [(.d (.sl (.int .i64) x0.1)), (.d (.sl (.int .i64) x0.2))]), (.arr (.pair .str .str) [(([98] : List UInt8), (p15_k2 x0))] true)]).run = some (.normal, p15_e10, [(.cells [(.d (.sl (.int .i64) x0.1)), (.d (.sl (.int .i64) x0.2))]), (.arr (.pair .str .str) [(([98] : List UInt8), (p15_k2 x0)), (([99] : List UInt8), (p15_k3 x0))] true)]) := M.run_of_path _ [true, true, true, true, true, true, true, true, true, true, true, true, true, true, true, true, true, true, true, true, true] _ _ (by kernel_rfl) (all_t rfl (all_t rfl (all_t rfl (all_t c39 (all_t c39 (all_t c39 (all_t c39 (all_t rfl (all_t c39 (all_t c39 (all_t c39 (all_t c39 (all_t c39 (all_t c49 (all_t c50 (all_t rfl (all_t c52 (all_t c53 (all_t rfl (all_t rfl (all_t rfl all_nil)))))))))))))))))))))
                          have hs2 : (turns (hds 15 3610) 0 3610 (evC byref (evCall F S4 (m + 24)) (m + 24) 0 (hds 15) lbu15_0) (m + 21) p15_e10 [(.cells [(.d (.sl (.int .i64) x0.1)), (.d (.sl (.int .i64) x0.2))]), (.arr (.pair .str .str) [(([98] : List UInt8), (p15_k2 x0)), (([99] : List UInt8), (p15_k3 x0))] true)]).run = some (.exit 0, p15_e3, [(.cells [(.d (.sl (.int .i64) x0.1)), (.d (.sl (.int .i64) x0.2))]), (.arr (.pair .str .str) [(([98] : List UInt8), (p15_k2 x0)), (([99] : List UInt8), (p15_k3 x0))] true)]) := Eq.mp (by kernel_rfl) hp3
                          have hp2 := turns_step ht2 hs2
                          have ht1 : (turn (hds 15 3610) 0 3610 (evC byref (evCall F S4 (m + 24)) (m + 24) 0 (hds 15) lbu15_0) p15_e13 [(.cells [(.d (.sl (.int .i64) x0.1)), (.d (.sl (.int .i64) x0.2))]), (.arr (.pair .str .str) ([] : List ((List UInt8) × (List UInt8))) true)]).run = some (.normal, p15_e11, [(.cells [(.d (.sl (.int .i64) x0.1)), (.d (.sl (.int .i64) x0.2))]), (.arr (.pair .str .str) [(([98] : List UInt8), (p15_k2 x0))] true)]) := M.run_of_path _ [true, true, true, true, true, true, true, true, true, true, true, true, true, true, true, true, true, true, true, true, true] _ _ (by kernel_rfl) (all_t rfl (all_t rfl (all_t rfl (all_t c18 (all_t c18 (all_t c18 (all_t c18 (all_t rfl (all_t c18 (all_t c18 (all_t c18 (all_t c18 (all_t c18 (all_t c28 (all_t c29 (all_t rfl (all_t c31 (all_t c32 (all_t rfl (all_t rfl (all_t rfl all_nil)))))))))))))))))))))
                          have hs1 : (turns (hds 15 3610) 0 3610 (evC byref (evCall F S4 (m + 24)) (m + 24) 0 (hds 15) lbu15_0) (m + 22) p15_e11 [(.cells [(.d (.sl (.int .i64) x0.1)), (.d (.sl (.int .i64) x0.2))]), (.arr (.pair .str .str) [(([98] : List UInt8), (p15_k2 x0))] true)]).run = some (.exit 0, p15_e3, [(.cells [(.d (.sl (.int .i64) x0.1)), (.d (.sl (.int .i64) x0.2))]), (.arr (.pair .str .str) [(([98] : List UInt8), (p15_k2 x0)), (([99] : List UInt8), (p15_k3 x0))] true)]) := Eq.mp (by kernel_rfl) hp2
                          have hp1 := turns_step ht1 hs1
                          have ht0 : (turn (hds 15 3610) 0 3610 (evC byref (evCall F S4 (m + 24)) (m + 24) 0 (hds 15) lbu15_0) p15_e6 [(.cells [(.d (.sl (.int .i64) x0.1)), (.d (.sl (.int .i64) x0.2))]), (.arr (.pair .str .str) ([] : List ((List UInt8) × (List UInt8))) true)]).run = some (.normal, p15_e13, [(.cells [(.d (.sl (.int .i64) x0.1)), (.d (.sl (.int .i64) x0.2))]), (.arr (.pair .str .str) ([] : List ((List UInt8) × (List UInt8))) true)]) := M.run_of_path _ [true, true, true, false, false, false, false, false, false, false, false, false] _ _ (by kernel_rfl) (all_t rfl (all_t rfl (all_t rfl (all_f c6 (all_f c6 (all_f c6 (all_f c6 (all_f c6 (all_f c6 (all_f c6 (all_f c6 (all_f Bool.false_ne_true all_nil))))))))))))
                          have hs0 : (turns (hds 15 3610) 0 3610 (evC byref (evCall F S4 (m + 24)) (m + 24) 0 (hds 15) lbu15_0) (m + 23) p15_e13 [(.cells [(.d (.sl (.int .i64) x0.1)), (.d (.sl (.int .i64) x0.2))]), (.arr (.pair .str .str) ([] : List ((List UInt8) × (List UInt8))) true)]).run = some (.exit 0, p15_e3, [(.cells [(.d (.sl (.int .i64) x0.1)), (.d (.sl (.int .i64) x0.2))]), (.arr (.pair .str .str) [(([98] : List UInt8), (p15_k2 x0)), (([99] : List UInt8), (p15_k3 x0))] true)]) := Eq.mp (by kernel_rfl) hp1
                          have hp0 := turns_step ht0 hs0
                          exact Eq.trans (Eq.mp (by kernel_rfl) hp0) hq
                        cases hp
                      · skip
                        cases h
                    · skip
                      cases h
                  · skip
                    cases h
                · skip
                  cases h
                  refine ⟨(.d (.sl (.pair .str .str) [(([98] : List UInt8), (p15_k2 x0))])), [], runT_ok (LS := (fun k => if k = 3610 then some (.exit 0, p15_e4, [(.cells [(.d (.sl (.int .i64) x0.1)), (.d (.sl (.int .i64) x0.2))]), (.arr (.pair .str .str) [(([98] : List UInt8), (p15_k2 x0))] true)]) else none)) (fn := fn15) (vis := [(3610, p15_e6, [(.cells [(.d (.sl (.int .i64) x0.1)), (.d (.sl (.int .i64) x0.2))]), (.arr (.pair .str .str) ([] : List ((List UInt8) × (List UInt8))) true)])]) (by kernel_rfl) rfl (by kernel_rfl) (M.run_of_path _ [true, true, true, true] _ _ (by kernel_rfl) (all_t rfl (all_t rfl (all_t rfl (all_t rfl all_nil))))) ?_, by simp, (wkR.one (wkV.one (wk1.eq rfl))), trivial⟩
                  intro p hp p2 hq
                  rcases List.mem_cons.1 hp with rfl | hp
                  · skip
                    have ht3 : (turn (hds 15 3610) 0 3610 (evC byref (evCall F S4 (m + 24)) (m + 24) 0 (hds 15) lbu15_0) p15_e12 [(.cells [(.d (.sl (.int .i64) x0.1)), (.d (.sl (.int .i64) x0.2))]), (.arr (.pair .str .str) [(([98] : List UInt8), (p15_k2 x0))] true)]).run = some (.exit 0, p15_e4, [(.cells [(.d (.sl (.int .i64) x0.1)), (.d (.sl (.int .i64) x0.2))]), (.arr (.pair .str .str) [(([98] : List UInt8), (p15_k2 x0))] true)]) := M.run_of_path _ [false] _ _ (by kernel_rfl) (all_f Bool.false_ne_true all_nil)
                    have hp3 := turns_last (n := m + 20) (by simp) ht3
                    have ht2 : (turn (hds 15 3610) 0 3610 (evC byref (evCall F S4 (m + 24)) (m + 24) 0 (hds 15) lbu15_0) p15_e11 [(.cells [(.d (.sl (.int .i64) x0.1)), (.d (.sl (.int .i64) x0.2))]), (.arr (.pair .str .str) [(([98] : List UInt8), (p15_k2 x0))] true)]).run = some (.normal, p15_e12, [(.cells [(.d (.sl (.int .i64) x0.1)), (.d (.sl (.int .i64) x0.2))]), (.arr (.pair .str .str) [(([98] : List UInt8), (p15_k2 x0))] true)]) := M.run_of_path _ [true, true, true, true, true, true, true, true, true, true, true, true, true, false] _ _ (by kernel_rfl) (all_t rfl (all_t rfl (all_t rfl (all_t c39 (all_t c39 (all_t c39 (all_t c39 (all_t rfl (all_t c39 (all_t c39 (all_t c39 (all_t c39 (all_t c39 (all_f c49 all_nil))))))))))))))
                    have hs2 : (turns (hds 15 3610) 0 3610 (evC byref (evCall F S4 (m + 24)) (m + 24) 0 (hds 15) lbu15_0) (m + 21) p15_e12 [(.cells [(.d (.sl (.int .i64) x0.1)), (.d (.sl (.int .i64) x0.2))]), (.arr (.pair .str .str) [(([98] : List UInt8), (p15_k2 x0))] true)]).run = some (.exit 0, p15_e4, [(.cells [(.d (.sl (.int .i64) x0.1)), (.d (.sl (.int .i64) x0.2))]), (.arr (.pair .str .str) [(([98] : List UInt8), (p15_k2 x0))] true)]) := Eq.mp (by kernel_rfl) hp3
                    have hp2 := turns_step ht2 hs2
                    have ht1 : (turn (hds 15 3610) 0 3610 (evC byref (evCall F S4 (m + 24)) (m + 24) 0 (hds 15) lbu15_0) p15_e13 [(.cells [(.d (.sl (.int .i64) x0.1)), (.d (.sl (.int .i64) x0.2))]), (.arr (.pair .str .str) ([] : List ((List UInt8) × (List UInt8))) true)]).run = some (.normal, p15_e11, [(.cells [(.d (.sl (.int .i64) x0.1)), (.d (.sl (.int .i64) x0.2))]), (.arr (.pair .str .str) [(([98] : List UInt8), (p15_k2 x0))] true)]) := M.run_of_path _ [true, true, true, true, true, true, true, true, true, true, true, true, true, true, true, true, true, true, true, true, true] _ _ (by kernel_rfl) (all_t rfl (all_t rfl (all_t rfl (all_t c18 (all_t c18 (all_t c18 (all_t c18 (all_t rfl (all_t c18 (all_t c18 (all_t c18 (all_t c18 (all_t c18 (all_t c28 (all_t c29 (all_t rfl (all_t c31 (all_t c32 (all_t rfl (all_t rfl (all_t rfl all_nil)))))))))))))))))))))
                    have hs1 : (turns (hds 15 3610) 0 3610 (evC byref (evCall F S4 (m + 24)) (m + 24) 0 (hds 15) lbu15_0) (m + 22) p15_e11 [(.cells [(.d (.sl (.int .i64) x0.1)), (.d (.sl (.int .i64) x0.2))]), (.arr (.pair .str .str) [(([98] : List UInt8), (p15_k2 x0))] true)]).run = some (.exit 0, p15_e4, [(.cells [(.d (.sl (.int .i64) x0.1)), (.d (.sl (.int .i64) x0.2))]), (.arr (.pair .str .str) [(([98] : List UInt8), (p15_k2 x0))] true)]) := Eq.mp (by kernel_rfl) hp2
                    have hp1 := turns_step ht1 hs1
                    have ht0 : (turn (hds 15 3610) 0 3610 (evC byref (evCall F S4 (m + 24)) (m + 24) 0 (hds 15) lbu15_0) p15_e6 [(.cells [(.d (.sl (.int .i64) x0.1)), (.d (.sl (.int .i64) x0.2))]), (.arr (.pair .str .str) ([] : List ((List UInt8) × (List UInt8))) true)]).run = some (.normal, p15_e13, [(.cells [(.d (.sl (.int .i64) x0.1)), (.d (.sl (.int .i64) x0.2))]), (.arr (.pair .str .str) ([] : List ((List UInt8) × (List UInt8))) true)]) := M.run_of_path _ [true, true, true, false, false, false, false, false, false, false, false, false] _ _ (by kernel_rfl) (all_t rfl (all_t rfl (all_t rfl (all_f c6 (all_f c6 (all_f c6 (all_f c6 (all_f c6 (all_f c6 (all_f c6 (all_f c6 (all_f Bool.false_ne_true all_nil))))))))))))
                    have hs0 : (turns (hds 15 3610) 0 3610 (evC byref (evCall F S4 (m + 24)) (m + 24) 0 (hds 15) lbu15_0) (m + 23) p15_e13 [(.cells [(.d (.sl (.int .i64) x0.1)), (.d (.sl (.int .i64) x0.2))]), (.arr (.pair .str .str) ([] : List ((List UInt8) × (List UInt8))) true)]).run = some (.exit 0, p15_e4, [(.cells [(.d (.sl (.int .i64) x0.1)), (.d (.sl (.int .i64) x0.2))]), (.arr (.pair .str .str) [(([98] : List UInt8), (p15_k2 x0))] true)]) := Eq.mp (by kernel_rfl) hp1
                    have hp0 := turns_step ht0 hs0
                    exact Eq.trans (Eq.mp (by kernel_rfl) hp0) hq
                  cases hp
              · skip
                cases h
                refine ⟨(.d (.sl (.pair .str .str) [(([98] : List UInt8), (p15_k2 x0))])), [], runT_ok (LS := (fun k => if k = 3610 then some (.exit 0, p15_e4, [(.cells [(.d (.sl (.int .i64) x0.1)), (.d (.sl (.int .i64) x0.2))]), (.arr (.pair .str .str) [(([98] : List UInt8), (p15_k2 x0))] true)]) else none)) (fn := fn15) (vis := [(3610, p15_e6, [(.cells [(.d (.sl (.int .i64) x0.1)), (.d (.sl (.int .i64) x0.2))]), (.arr (.pair .str .str) ([] : List ((List UInt8) × (List UInt8))) true)])]) (by kernel_rfl) rfl (by kernel_rfl) (M.run_of_path _ [true, true, true, true] _ _ (by kernel_rfl) (all_t rfl (all_t rfl (all_t rfl (all_t rfl all_nil))))) ?_, by simp, (wkR.one (wkV.one (wk1.eq rfl))), trivial⟩
                intro p hp p2 hq
                rcases List.mem_cons.1 hp with rfl | hp
                · skip
                  have ht3 : (turn (hds 15 3610) 0 3610 (evC byref (evCall F S4 (m + 24)) (m + 24) 0 (hds 15) lbu15_0) p15_e12 [(.cells [(.d (.sl (.int .i64) x0.1)), (.d (.sl (.int .i64) x0.2))]), (.arr (.pair .str .str) [(([98] : List UInt8), (p15_k2 x0))] true)]).run = some (.exit 0, p15_e4, [(.cells [(.d (.sl (.int .i64) x0.1)), (.d (.sl (.int .i64) x0.2))]), (.arr (.pair .str .str) [(([98] : List UInt8), (p15_k2 x0))] true)]) := M.run_of_path _ [false] _ _ (by kernel_rfl) (all_f Bool.false_ne_true all_nil)
                  have hp3 := turns_last (n := m + 20) (by simp) ht3
                  have ht2 : (turn (hds 15 3610) 0 3610 (evC byref (evCall F S4 (m + 24)) (m + 24) 0 (hds 15) lbu15_0) p15_e11 [(.cells [(.d (.sl (.int .i64) x0.1)), (.d (.sl (.int .i64) x0.2))]), (.arr (.pair .str .str) [(([98] : List UInt8), (p15_k2 x0))] true)]).run = some (.normal, p15_e12, [(.cells [(.d (.sl (.int .i64) x0.1)), (.d (.sl (.int .i64) x0.2))]), (.arr (.pair .str .str) [(([98] : List UInt8), (p15_k2 x0))] true)]) := M.run_of_path _ [true, true, true, false, false, false, false, false, false, false, false, false] _ _ (by kernel_rfl) (all_t rfl (all_t rfl (all_t rfl (all_f c39 (all_f c39 (all_f c39 (all_f c39 (all_f c39 (all_f c39 (all_f c39 (all_f c39 (all_f Bool.false_ne_true all_nil))))))))))))
                  have hs2 : (turns (hds 15 3610) 0 3610 (evC byref (evCall F S4 (m + 24)) (m + 24) 0 (hds 15) lbu15_0) (m + 21) p15_e12 [(.cells [(.d (.sl (.int .i64) x0.1)), (.d (.sl (.int .i64) x0.2))]), (.arr (.pair .str .str) [(([98] : List UInt8), (p15_k2 x0))] true)]).run = some (.exit 0, p15_e4, [(.cells [(.d (.sl (.int .i64) x0.1)), (.d (.sl (.int .i64) x0.2))]), (.arr (.pair .str .str) [(([98] : List UInt8), (p15_k2 x0))] true)]) := Eq.mp (by kernel_rfl) hp3
                  have hp2 := turns_step ht2 hs2
                  have ht1 : (turn (hds 15 3610) 0 3610 (evC byref (evCall F S4 (m + 24)) (m + 24) 0 (hds 15) lbu15_0) p15_e13 [(.cells [(.d (.sl (.int .i64) x0.1)), (.d (.sl (.int .i64) x0.2))]), (.arr (.pair .str .str) ([] : List ((List UInt8) × (List UInt8))) true)]).run = some (.normal, p15_e11, [(.cells [(.d (.sl (.int .i64) x0.1)), (.d (.sl (.int .i64) x0.2))]), (.arr (.pair .str .str) [(([98] : List UInt8), (p15_k2 x0))] true)]) := M.run_of_path _ [true, true, true, true, true, true, true, true, true, true, true, true, true, true, true, true, true, true, true, true, true] _ _ (by kernel_rfl) (all_t rfl (all_t rfl (all_t rfl (all_t c18 (all_t c18 (all_t c18 (all_t c18 (all_t rfl (all_t c18 (all_t c18 (all_t c18 (all_t c18 (all_t c18 (all_t c28 (all_t c29 (all_t rfl (all_t c31 (all_t c32 (all_t rfl (all_t rfl (all_t rfl all_nil)))))))))))))))))))))
                  have hs1 : (turns (hds 15 3610) 0 3610 (evC byref (evCall F S4 (m + 24)) (m + 24) 0 (hds 15) lbu15_0) (m + 22) p15_e11 [(.cells [(.d (.sl (.int .i64) x0.1)), (.d (.sl (.int .i64) x0.2))]), (.arr (.pair .str .str) [(([98] : List UInt8), (p15_k2 x0))] true)]).run = some (.exit 0, p15_e4, [(.cells [(.d (.sl (.int .i64) x0.1)), (.d (.sl (.int .i64) x0.2))]), (.arr (.pair .str .str) [(([98] : List UInt8), (p15_k2 x0))] true)]) := Eq.mp (by kernel_rfl) hp2
                  have hp1 := turns_step ht1 hs1
                  have ht0 : (turn (hds 15 3610) 0 3610 (evC byref (evCall F S4 (m + 24)) (m + 24) 0 (hds 15) lbu15_0) p15_e6 [(.cells [(.d (.sl (.int .i64) x0.1)), (.d (.sl (.int .i64) x0.2))]), (.arr (.pair .str .str) ([] : List ((List UInt8) × (List UInt8))) true)]).run = some (.normal, p15_e13, [(.cells [(.d (.sl (.int .i64) x0.1)), (.d (.sl (.int .i64) x0.2))]), (.arr (.pair .str .str) ([] : List ((List UInt8) × (List UInt8))) true)]) := M.run_of_path _ [true, true, true, false, false, false, false, false, false, false, false, false] _ _ (by kernel_rfl) (all_t rfl (all_t rfl (all_t rfl (all_f c6 (all_f c6 (all_f c6 (all_f c6 (all_f c6 (all_f c6 (all_f c6 (all_f c6 (all_f Bool.false_ne_true all_nil))))))))))))
                  have hs0 : (turns (hds 15 3610) 0 3610 (evC byref (evCall F S4 (m + 24)) (m + 24) 0 (hds 15) lbu15_0) (m + 23) p15_e13 [(.cells [(.d (.sl (.int .i64) x0.1)), (.d (.sl (.int .i64) x0.2))]), (.arr (.pair .str .str) ([] : List ((List UInt8) × (List UInt8))) true)]).run = some (.exit 0, p15_e4, [(.cells [(.d (.sl (.int .i64) x0.1)), (.d (.sl (.int .i64) x0.2))]), (.arr (.pair .str .str) [(([98] : List UInt8), (p15_k2 x0))] true)]) := Eq.mp (by kernel_rfl) hp1
                  have hp0 := turns_step ht0 hs0
                  exact Eq.trans (Eq.mp (by kernel_rfl) hp0) hq
                cases hp
            · skip
              cases h
          · skip
            cases h
        · skip
          cases h
      · skip
        refine ite_cases h (fun c32 h => ?_) (fun c32 h => ?_)
        · skip
          refine ite_cases h (fun c42 h => ?_) (fun c42 h => ?_)
          · skip
            refine ite_cases h (fun c43 h => ?_) (fun c43 h => ?_)
            · skip
              refine ite_cases h (fun c45 h => ?_) (fun c45 h => ?_)
              · skip
                refine ite_cases h (fun c46 h => ?_) (fun c46 h => ?_)
                · skip
                  cases h
                  refine ⟨(.d (.sl (.pair .str .str) [(([99] : List UInt8), (p15_k3 x0))])), [], runT_ok (LS := (fun k => if k = 3610 then some (.exit 0, p15_e4, [(.cells [(.d (.sl (.int .i64) x0.1)), (.d (.sl (.int .i64) x0.2))]), (.arr (.pair .str .str) [(([99] : List UInt8), (p15_k3 x0))] true)]) else none)) (fn := fn15) (vis := [(3610, p15_e6, [(.cells [(.d (.sl (.int .i64) x0.1)), (.d (.sl (.int .i64) x0.2))]), (.arr (.pair .str .str) ([] : List ((List UInt8) × (List UInt8))) true)])]) (by kernel_rfl) rfl (by kernel_rfl) (M.run_of_path _ [true, true, true, true] _ _ (by kernel_rfl) (all_t rfl (all_t rfl (all_t rfl (all_t rfl all_nil))))) ?_, by simp, (wkR.one (wkV.one (wk1.eq rfl))), trivial⟩
                  intro p hp p2 hq
                  rcases List.mem_cons.1 hp with rfl | hp
                  · skip
                    have ht3 : (turn (hds 15 3610) 0 3610 (evC byref (evCall F S4 (m + 24)) (m + 24) 0 (hds 15) lbu15_0) p15_e12 [(.cells [(.d (.sl (.int .i64) x0.1)), (.d (.sl (.int .i64) x0.2))]), (.arr (.pair .str .str) [(([99] : List UInt8), (p15_k3 x0))] true)]).run = some (.exit 0, p15_e4, [(.cells [(.d (.sl (.int .i64) x0.1)), (.d (.sl (.int .i64) x0.2))]), (.arr (.pair .str .str) [(([99] : List UInt8), (p15_k3 x0))] true)]) := M.run_of_path _ [false] _ _ (by kernel_rfl) (all_f Bool.false_ne_true all_nil)
                    have hp3 := turns_last (n := m + 20) (by simp) ht3
                    have ht2 : (turn (hds 15 3610) 0 3610 (evC byref (evCall F S4 (m + 24)) (m + 24) 0 (hds 15) lbu15_0) p15_e14 [(.cells [(.d (.sl (.int .i64) x0.1)), (.d (.sl (.int .i64) x0.2))]), (.arr (.pair .str .str) ([] : List ((List UInt8) × (List UInt8))) true)]).run = some (.normal, p15_e12, [(.cells [(.d (.sl (.int .i64) x0.1)), (.d (.sl (.int .i64) x0.2))]), (.arr (.pair .str .str) [(([99] : List UInt8), (p15_k3 x0))] true)]) := M.run_of_path _ [true, true, true, true, true, true, true, true, true, true, true, true, true, true, true, true, true, true, true, true, true] _ _ (by kernel_rfl) (all_t rfl (all_t rfl (all_t rfl (all_t c32 (all_t c32 (all_t c32 (all_t c32 (all_t rfl (all_t c32 (all_t c32 (all_t c32 (all_t c32 (all_t c32 (all_t c42 (all_t c43 (all_t rfl (all_t c45 (all_t c46 (all_t rfl (all_t rfl (all_t rfl all_nil)))))))))))))))))))))
                    have hs2 : (turns (hds 15 3610) 0 3610 (evC byref (evCall F S4 (m + 24)) (m + 24) 0 (hds 15) lbu15_0) (m + 21) p15_e12 [(.cells [(.d (.sl (.int .i64) x0.1)), (.d (.sl (.int .i64) x0.2))]), (.arr (.pair .str .str) [(([99] : List UInt8), (p15_k3 x0))] true)]).run = some (.exit 0, p15_e4, [(.cells [(.d (.sl (.int .i64) x0.1)), (.d (.sl (.int .i64) x0.2))]), (.arr (.pair .str .str) [(([99] : List UInt8), (p15_k3 x0))] true)]) := Eq.mp (by kernel_rfl) hp3
                    have hp2 := turns_step ht2 hs2
                    have ht1 : (turn (hds 15 3610) 0 3610 (evC byref (evCall F S4 (m + 24)) (m + 24) 0 (hds 15) lbu15_0) p15_e13 [(.cells [(.d (.sl (.int .i64) x0.1)), (.d (.sl (.int .i64) x0.2))]), (.arr (.pair .str .str) ([] : List ((List UInt8) × (List UInt8))) true)]).run = some (.normal, p15_e14, [(.cells [(.d (.sl (.int .i64) x0.1)), (.d (.sl (.int .i64) x0.2))]), (.arr (.pair .str .str) ([] : List ((List UInt8) × (List UInt8))) true)]) := M.run_of_path _ [true, true, true, true, true, true, true, true, true, true, true, true, true, false] _ _ (by kernel_rfl) (all_t rfl (all_t rfl (all_t rfl (all_t c18 (all_t c18 (all_t c18 (all_t c18 (all_t rfl (all_t c18 (all_t c18 (all_t c18 (all_t c18 (all_t c18 (all_f c28 all_nil))))))))))))))
                    have hs1 : (turns (hds 15 3610) 0 3610 (evC byref (evCall F S4 (m + 24)) (m + 24) 0 (hds 15) lbu15_0) (m + 22) p15_e14 [(.cells [(.d (.sl (.int .i64) x0.1)), (.d (.sl (.int .i64) x0.2))]), (.arr (.pair .str .str) ([] : List ((List UInt8) × (List UInt8))) true)]).run = some (.exit 0, p15_e4, [(.cells [(.d (.sl (.int .i64) x0.1)), (.d (.sl (.int .i64) x0.2))]), (.arr (.pair .str .str) [(([99] : List UInt8), (p15_k3 x0))] true)]) := Eq.mp (by kernel_rfl) hp2
                    have hp1 := turns_step ht1 hs1
                    have ht0 : (turn (hds 15 3610) 0 3610 (evC byref (evCall F S4 (m + 24)) (m + 24) 0 (hds 15) lbu15_0) p15_e6 [(.cells [(.d (.sl (.int .i64) x0.1)), (.d (.sl (.int .i64) x0.2))]), (.arr (.pair .str .str) ([] : List ((List UInt8) × (List UInt8))) true)]).run = some (.normal, p15_e13, [(.cells [(.d (.sl (.int .i64) x0.1)), (.d (.sl (.int .i64) x0.2))]), (.arr (.pair .str .str) ([] : List ((List UInt8) × (List UInt8))) true)]) := M.run_of_path _ [true, true, true, false, false, false, false, false, false, false, false, false] _ _ (by kernel_rfl) (all_t rfl (all_t rfl (all_t rfl (all_f c6 (all_f c6 (all_f c6 (all_f c6 (all_f c6 (all_f c6 (all_f c6 (all_f c6 (all_f Bool.false_ne_true all_nil))))))))))))
                    have hs0 : (turns (hds 15 3610) 0 3610 (evC byref (evCall F S4 (m + 24)) (m + 24) 0 (hds 15) lbu15_0) (m + 23) p15_e13 [(.cells [(.d (.sl (.int .i64) x0.1)), (.d (.sl (.int .i64) x0.2))]), (.arr (.pair .str .str) ([] : List ((List UInt8) × (List UInt8))) true)]).run = some (.exit 0, p15_e4, [(.cells [(.d (.sl (.int .i64) x0.1)), (.d (.sl (.int .i64) x0.2))]), (.arr (.pair .str .str) [(([99] : List UInt8), (p15_k3 x0))] true)]) := Eq.mp (by kernel_rfl) hp1
                    have hp0 := turns_step ht0 hs0
                    exact Eq.trans (Eq.mp (by kernel_rfl) hp0) hq
                  cases hp
                · skip
                  cases h
              · skip
                cases h
            · skip
              cases h
          · skip
            cases h
            refine ⟨(.d (.sl (.pair .str .str) ([] : List ((List UInt8) × (List UInt8))))), [], runT_ok (LS := (fun k => if k = 3610 then some (.exit 0, p15_e5, [(.cells [(.d (.sl (.int .i64) x0.1)), (.d (.sl (.int .i64) x0.2))]), (.arr (.pair .str .str) ([] : List ((List UInt8) × (List UInt8))) true)]) else none)) (fn := fn15) (vis := [(3610, p15_e6, [(.cells [(.d (.sl (.int .i64) x0.1)), (.d (.sl (.int .i64) x0.2))]), (.arr (.pair .str .str) ([] : List ((List UInt8) × (List UInt8))) true)])]) (by kernel_rfl) rfl (by kernel_rfl) (M.run_of_path _ [true, true, true, true] _ _ (by kernel_rfl) (all_t rfl (all_t rfl (all_t rfl (all_t rfl all_nil))))) ?_, by simp, (wkR.one (wkV.one (wk1.eq rfl))), trivial⟩
            intro p hp p2 hq
            rcases List.mem_cons.1 hp with rfl | hp
            · skip
              have ht3 : (turn (hds 15 3610) 0 3610 (evC byref (evCall F S4 (m + 24)) (m + 24) 0 (hds 15) lbu15_0) p15_e15 [(.cells [(.d (.sl (.int .i64) x0.1)), (.d (.sl (.int .i64) x0.2))]), (.arr (.pair .str .str) ([] : List ((List UInt8) × (List UInt8))) true)]).run = some (.exit 0, p15_e5, [(.cells [(.d (.sl (.int .i64) x0.1)), (.d (.sl (.int .i64) x0.2))]), (.arr (.pair .str .str) ([] : List ((List UInt8) × (List UInt8))) true)]) := M.run_of_path _ [false] _ _ (by kernel_rfl) (all_f Bool.false_ne_true all_nil)
              have hp3 := turns_last (n := m + 20) (by simp) ht3
              have ht2 : (turn (hds 15 3610) 0 3610 (evC byref (evCall F S4 (m + 24)) (m + 24) 0 (hds 15) lbu15_0) p15_e14 [(.cells [(.d (.sl (.int .i64) x0.1)), (.d (.sl (.int .i64) x0.2))]), (.arr (.pair .str .str) ([] : List ((List UInt8) × (List UInt8))) true)]).run = some (.normal, p15_e15, [(.cells [(.d (.sl (.int .i64) x0.1)), (.d (.sl (.int .i64) x0.2))]), (.arr (.pair .str .str) ([] : List ((List UInt8) × (List UInt8))) true)]) := M.run_of_path _ [true, true, true, true, true, true, true, true, true, true, true, true, true, false] _ _ (by kernel_rfl) (all_t rfl (all_t rfl (all_t rfl (all_t c32 (all_t c32 (all_t c32 (all_t c32 (all_t rfl (all_t c32 (all_t c32 (all_t c32 (all_t c32 (all_t c32 (all_f c42 all_nil))))))))))))))
              have hs2 : (turns (hds 15 3610) 0 3610 (evC byref (evCall F S4 (m + 24)) (m + 24) 0 (hds 15) lbu15_0) (m + 21) p15_e15 [(.cells [(.d (.sl (.int .i64) x0.1)), (.d (.sl (.int .i64) x0.2))]), (.arr (.pair .str .str) ([] : List ((List UInt8) × (List UInt8))) true)]).run = some (.exit 0, p15_e5, [(.cells [(.d (.sl (.int .i64) x0.1)), (.d (.sl (.int .i64) x0.2))]), (.arr (.pair .str .str) ([] : List ((List UInt8) × (List UInt8))) true)]) := Eq.mp (by kernel_rfl) hp3
              have hp2 := turns_step ht2 hs2
              have ht1 : (turn (hds 15 3610) 0 3610 (evC byref (evCall F S4 (m + 24)) (m + 24) 0 (hds 15) lbu15_0) p15_e13 [(.cells [(.d (.sl (.int .i64) x0.1)), (.d (.sl (.int .i64) x0.2))]), (.arr (.pair .str .str) ([] : List ((List UInt8) × (List UInt8))) true)]).run = some (.normal, p15_e14, [(.cells [(.d (.sl (.int .i64) x0.1)), (.d (.sl (.int .i64) x0.2))]), (.arr (.pair .str .str) ([] : List ((List UInt8) × (List UInt8))) true)]) := M.run_of_path _ [true, true, true, true, true, true, true, true, true, true, true, true, true, false] _ _ (by kernel_rfl) (all_t rfl (all_t rfl (all_t rfl (all_t c18 (all_t c18 (all_t c18 (all_t c18 (all_t rfl (all_t c18 (all_t c18 (all_t c18 (all_t c18 (all_t c18 (all_f c28 all_nil))))))))))))))
              have hs1 : (turns (hds 15 3610) 0 3610 (evC byref (evCall F S4 (m + 24)) (m + 24) 0 (hds 15) lbu15_0) (m + 22) p15_e14 [(.cells [(.d (.sl (.int .i64) x0.1)), (.d (.sl (.int .i64) x0.2))]), (.arr (.pair .str .str) ([] : List ((List UInt8) × (List UInt8))) true)]).run = some (.exit 0, p15_e5, [(.cells [(.d (.sl (.int .i64) x0.1)), (.d (.sl (.int .i64) x0.2))]), (.arr (.pair .str .str) ([] : List ((List UInt8) × (List UInt8))) true)]) := Eq.mp (by kernel_rfl) hp2
              have hp1 := turns_step ht1 hs1
              have ht0 : (turn (hds 15 3610) 0 3610 (evC byref (evCall F S4 (m + 24)) (m + 24) 0 (hds 15) lbu15_0) p15_e6 [(.cells [(.d (.sl (.int .i64) x0.1)), (.d (.sl (.int .i64) x0.2))]), (.arr (.pair .str .str) ([] : List ((List UInt8) × (List UInt8))) true)]).run = some (.normal, p15_e13, [(.cells [(.d (.sl (.int .i64) x0.1)), (.d (.sl (.int .i64) x0.2))]), (.arr (.pair .str .str) ([] : List ((List UInt8) × (List UInt8))) true)]) := M.run_of_path _ [true, true, true, false, false, false, false, false, false, false, false, false] _ _ (by kernel_rfl) (all_t rfl (all_t rfl (all_t rfl (all_f c6 (all_f c6 (all_f c6 (all_f c6 (all_f c6 (all_f c6 (all_f c6 (all_f c6 (all_f Bool.false_ne_true all_nil))))))))))))
              have hs0 : (turns (hds 15 3610) 0 3610 (evC byref (evCall F S4 (m + 24)) (m + 24) 0 (hds 15) lbu15_0) (m + 23) p15_e13 [(.cells [(.d (.sl (.int .i64) x0.1)), (.d (.sl (.int .i64) x0.2))]), (.arr (.pair .str .str) ([] : List ((List UInt8) × (List UInt8))) true)]).run = some (.exit 0, p15_e5, [(.cells [(.d (.sl (.int .i64) x0.1)), (.d (.sl (.int .i64) x0.2))]), (.arr (.pair .str .str) ([] : List ((List UInt8) × (List UInt8))) true)]) := Eq.mp (by kernel_rfl) hp1
              have hp0 := turns_step ht0 hs0
              exact Eq.trans (Eq.mp (by kernel_rfl) hp0) hq
            cases hp
        · skip
          cases h
          refine ⟨(.d (.sl (.pair .str .str) ([] : List ((List UInt8) × (List UInt8))))), [], runT_ok (LS := (fun k => if k = 3610 then some (.exit 0, p15_e5, [(.cells [(.d (.sl (.int .i64) x0.1)), (.d (.sl (.int .i64) x0.2))]), (.arr (.pair .str .str) ([] : List ((List UInt8) × (List UInt8))) true)]) else none)) (fn := fn15) (vis := [(3610, p15_e6, [(.cells [(.d (.sl (.int .i64) x0.1)), (.d (.sl (.int .i64) x0.2))]), (.arr (.pair .str .str) ([] : List ((List UInt8) × (List UInt8))) true)])]) (by kernel_rfl) rfl (by kernel_rfl) (M.run_of_path _ [true, true, true, true] _ _ (by kernel_rfl) (all_t rfl (all_t rfl (all_t rfl (all_t rfl all_nil))))) ?_, by simp, (wkR.one (wkV.one (wk1.eq rfl))), trivial⟩
          intro p hp p2 hq
          rcases List.mem_cons.1 hp with rfl | hp
          · skip
            have ht3 : (turn (hds 15 3610) 0 3610 (evC byref (evCall F S4 (m + 24)) (m + 24) 0 (hds 15) lbu15_0) p15_e15 [(.cells [(.d (.sl (.int .i64) x0.1)), (.d (.sl (.int .i64) x0.2))]), (.arr (.pair .str .str) ([] : List ((List UInt8) × (List UInt8))) true)]).run = some (.exit 0, p15_e5, [(.cells [(.d (.sl (.int .i64) x0.1)), (.d (.sl (.int .i64) x0.2))]), (.arr (.pair .str .str) ([] : List ((List UInt8) × (List UInt8))) true)]) := M.run_of_path _ [false] _ _ (by kernel_rfl) (all_f Bool.false_ne_true all_nil)
            have hp3 := turns_last (n := m + 20) (by simp) ht3
            have ht2 : (turn (hds 15 3610) 0 3610 (evC byref (evCall F S4 (m + 24)) (m + 24) 0 (hds 15) lbu15_0) p15_e14 [(.cells [(.d (.sl (.int .i64) x0.1)), (.d (.sl (.int .i64) x0.2))]), (.arr (.pair .str .str) ([] : List ((List UInt8) × (List UInt8))) true)]).run = some (.normal, p15_e15, [(.cells [(.d (.sl (.int .i64) x0.1)), (.d (.sl (.int .i64) x0.2))]), (.arr (.pair .str .str) ([] : List ((List UInt8) × (List UInt8))) true)]) := M.run_of_path _ [true, true, true, false, false, false, false, false, false, false, false, false] _ _ (by kernel_rfl) (all_t rfl (all_t rfl (all_t rfl (all_f c32 (all_f c32 (all_f c32 (all_f c32 (all_f c32 (all_f c32 (all_f c32 (all_f c32 (all_f Bool.false_ne_true all_nil))))))))))))
            have hs2 : (turns (hds 15 3610) 0 3610 (evC byref (evCall F S4 (m + 24)) (m + 24) 0 (hds 15) lbu15_0) (m + 21) p15_e15 [(.cells [(.d (.sl (.int .i64) x0.1)), (.d (.sl (.int .i64) x0.2))]), (.arr (.pair .str .str) ([] : List ((List UInt8) × (List UInt8))) true)]).run = some (.exit 0, p15_e5, [(.cells [(.d (.sl (.int .i64) x0.1)), (.d (.sl (.int .i64) x0.2))]), (.arr (.pair .str .str) ([] : List ((List UInt8) × (List UInt8))) true)]) := Eq.mp (by kernel_rfl) hp3
            have hp2 := turns_step ht2 hs2
            have ht1 : (turn (hds 15 3610) 0 3610 (evC byref (evCall F S4 (m + 24)) (m + 24) 0 (hds 15) lbu15_0) p15_e13 [(.cells [(.d (.sl (.int .i64) x0.1)), (.d (.sl (.int .i64) x0.2))]), (.arr (.pair .str .str) ([] : List ((List UInt8) × (List UInt8))) true)]).run = some (.normal, p15_e14, [(.cells [(.d (.sl (.int .i64) x0.1)), (.d (.sl (.int .i64) x0.2))]), (.arr (.pair .str .str) ([] : List ((List UInt8) × (List UInt8))) true)]) := M.run_of_path _ [true, true, true, true, true, true, true, true, true, true, true, true, true, false] _ _ (by kernel_rfl) (all_t rfl (all_t rfl (all_t rfl (all_t c18 (all_t c18 (all_t c18 (all_t c18 (all_t rfl (all_t c18 (all_t c18 (all_t c18 (all_t c18 (all_t c18 (all_f c28 all_nil))))))))))))))
            have hs1 : (turns (hds 15 3610) 0 3610 (evC byref (evCall F S4 (m + 24)) (m + 24) 0 (hds 15) lbu15_0) (m + 22) p15_e14 [(.cells [(.d (.sl (.int .i64) x0.1)), (.d (.sl (.int .i64) x0.2))]), (.arr (.pair .str .str) ([] : List ((List UInt8) × (List UInt8))) true)]).run = some (.exit 0, p15_e5, [(.cells [(.d (.sl (.int .i64) x0.1)), (.d (.sl (.int .i64) x0.2))]), (.arr (.pair .str .str) ([] : List ((List UInt8) × (List UInt8))) true)]) := Eq.mp (by kernel_rfl) hp2
            have hp1 := turns_step ht1 hs1
            have ht0 : (turn (hds 15 3610) 0 3610 (evC byref (evCall F S4 (m + 24)) (m + 24) 0 (hds 15) lbu15_0) p15_e6 [(.cells [(.d (.sl (.int .i64) x0.1)), (.d (.sl (.int .i64) x0.2))]), (.arr (.pair .str .str) ([] : List ((List UInt8) × (List UInt8))) true)]).run = some (.normal, p15_e13, [(.cells [(.d (.sl (.int .i64) x0.1)), (.d (.sl (.int .i64) x0.2))]), (.arr (.pair .str .str) ([] : List ((List UInt8) × (List UInt8))) true)]) := M.run_of_path _ [true, true, true, false, false, false, false, false, false, false, false, false] _ _ (by kernel_rfl) (all_t rfl (all_t rfl (all_t rfl (all_f c6 (all_f c6 (all_f c6 (all_f c6 (all_f c6 (all_f c6 (all_f c6 (all_f c6 (all_f Bool.false_ne_true all_nil))))))))))))
            have hs0 : (turns (hds 15 3610) 0 3610 (evC byref (evCall F S4 (m + 24)) (m + 24) 0 (hds 15) lbu15_0) (m + 23) p15_e13 [(.cells [(.d (.sl (.int .i64) x0.1)), (.d (.sl (.int .i64) x0.2))]), (.arr (.pair .str .str) ([] : List ((List UInt8) × (List UInt8))) true)]).run = some (.exit 0, p15_e5, [(.cells [(.d (.sl (.int .i64) x0.1)), (.d (.sl (.int .i64) x0.2))]), (.arr (.pair .str .str) ([] : List ((List UInt8) × (List UInt8))) true)]) := Eq.mp (by kernel_rfl) hp1
            have hp0 := turns_step ht0 hs0
            exact Eq.trans (Eq.mp (by kernel_rfl) hp0) hq
          cases hp
    · skip
      refine ite_cases h (fun c30 h => ?_) (fun c30 h => ?_)
      · skip
        refine ite_cases h (fun c40 h => ?_) (fun c40 h => ?_)
        · skip
          refine ite_cases h (fun c41 h => ?_) (fun c41 h => ?_)
          · skip
            refine ite_cases h (fun c43 h => ?_) (fun c43 h => ?_)
            · skip
              refine ite_cases h (fun c44 h => ?_) (fun c44 h => ?_)
              · skip
                cases h
                refine ⟨(.d (.sl (.pair .str .str) [(([99] : List UInt8), (p15_k3 x0))])), [], runT_ok (LS := (fun k => if k = 3610 then some (.exit 0, p15_e4, [(.cells [(.d (.sl (.int .i64) x0.1)), (.d (.sl (.int .i64) x0.2))]), (.arr (.pair .str .str) [(([99] : List UInt8), (p15_k3 x0))] true)]) else none)) (fn := fn15) (vis := [(3610, p15_e6, [(.cells [(.d (.sl (.int .i64) x0.1)), (.d (.sl (.int .i64) x0.2))]), (.arr (.pair .str .str) ([] : List ((List UInt8) × (List UInt8))) true)])]) (by kernel_rfl) rfl (by kernel_rfl) (M.run_of_path _ [true, true, true, true] _ _ (by kernel_rfl) (all_t rfl (all_t rfl (all_t rfl (all_t rfl all_nil))))) ?_, by simp, (wkR.one (wkV.one (wk1.eq rfl))), trivial⟩
                intro p hp p2 hq
                rcases List.mem_cons.1 hp with rfl | hp
                · skip
                  have ht3 : (turn (hds 15 3610) 0 3610 (evC byref (evCall F S4 (m + 24)) (m + 24) 0 (hds 15) lbu15_0) p15_e12 [(.cells [(.d (.sl (.int .i64) x0.1)), (.d (.sl (.int .i64) x0.2))]), (.arr (.pair .str .str) [(([99] : List UInt8), (p15_k3 x0))] true)]).run = some (.exit 0, p15_e4, [(.cells [(.d (.sl (.int .i64) x0.1)), (.d (.sl (.int .i64) x0.2))]), (.arr (.pair .str .str) [(([99] : List UInt8), (p15_k3 x0))] true)]) := M.run_of_path _ [false] _ _ (by kernel_rfl) (all_f Bool.false_ne_true all_nil)
                  have hp3 := turns_last (n := m + 20) (by simp) ht3
                  have ht2 : (turn (hds 15 3610) 0 3610 (evC byref (evCall F S4 (m + 24)) (m + 24) 0 (hds 15) lbu15_0) p15_e14 [(.cells [(.d (.sl (.int .i64) x0.1)), (.d (.sl (.int .i64) x0.2))]), (.arr (.pair .str .str) ([] : List ((List UInt8) × (List UInt8))) true)]).run = some (.normal, p15_e12, [(.cells [(.d (.sl (.int .i64) x0.1)), (.d (.sl (.int .i64) x0.2))]), (.arr (.pair .str .str) [(([99] : List UInt8), (p15_k3 x0))] true)]) := M.run_of_path _ [true, true, true, true, true, true, true, true, true, true, true, true, true, true, true, true, true, true, true, true, true] _ _ (by kernel_rfl) (all_t rfl (all_t rfl (all_t rfl (all_t c30 (all_t c30 (all_t c30 (all_t c30 (all_t rfl (all_t c30 (all_t c30 (all_t c30 (all_t c30 (all_t c30 (all_t c40 (all_t c41 (all_t rfl (all_t c43 (all_t c44 (all_t rfl (all_t rfl (all_t rfl all_nil)))))))))))))))))))))
                  have hs2 : (turns (hds 15 3610) 0 3610 (evC byref (evCall F S4 (m + 24)) (m + 24) 0 (hds 15) lbu15_0) (m + 21) p15_e12 [(.cells [(.d (.sl (.int .i64) x0.1)), (.d (.sl (.int .i64) x0.2))]), (.arr (.pair .str .str) [(([99] : List UInt8), (p15_k3 x0))] true)]).run = some (.exit 0, p15_e4, [(.cells [(.d (.sl (.int .i64) x0.1)), (.d (.sl (.int .i64) x0.2))]), (.arr (.pair .str .str) [(([99] : List UInt8), (p15_k3 x0))] true)]) := Eq.mp (by kernel_rfl) hp3
                  have hp2 := turns_step ht2 hs2
                  have ht1 : (turn (hds 15 3610) 0 3610 (evC byref (evCall F S4 (m + 24)) (m + 24) 0 (hds 15) lbu15_0) p15_e13 [(.cells [(.d (.sl (.int .i64) x0.1)), (.d (.sl (.int .i64) x0.2))]), (.arr (.pair .str .str) ([] : List ((List UInt8) × (List UInt8))) true)]).run = some (.normal, p15_e14, [(.cells [(.d (.sl (.int .i64) x0.1)), (.d (.sl (.int .i64) x0.2))]), (.arr (.pair .str .str) ([] : List ((List UInt8) × (List UInt8))) true)]) := M.run_of_path _ [true, true, true, false, false, false, false, false, false, false, false, false] _ _ (by kernel_rfl) (all_t rfl (all_t rfl (all_t rfl (all_f c18 (all_f c18 (all_f c18 (all_f c18 (all_f c18 (all_f c18 (all_f c18 (all_f c18 (all_f Bool.false_ne_true all_nil))))))))))))
                  have hs1 : (turns (hds 15 3610) 0 3610 (evC byref (evCall F S4 (m + 24)) (m + 24) 0 (hds 15) lbu15_0) (m + 22) p15_e14 [(.cells [(.d (.sl (.int .i64) x0.1)), (.d (.sl (.int .i64) x0.2))]), (.arr (.pair .str .str) ([] : List ((List UInt8) × (List UInt8))) true)]).run = some (.exit 0, p15_e4, [(.cells [(.d (.sl (.int .i64) x0.1)), (.d (.sl (.int .i64) x0.2))]), (.arr (.pair .str .str) [(([99] : List UInt8), (p15_k3 x0))] true)]) := Eq.mp (by kernel_rfl) hp2
                  have hp1 := turns_step ht1 hs1
                  have ht0 : (turn (hds 15 3610) 0 3610 (evC byref (evCall F S4 (m + 24)) (m + 24) 0 (hds 15) lbu15_0) p15_e6 [(.cells [(.d (.sl (.int .i64) x0.1)), (.d (.sl (.int .i64) x0.2))]), (.arr (.pair .str .str) ([] : List ((List UInt8) × (List UInt8))) true)]).run = some (.normal, p15_e13, [(.cells [(.d (.sl (.int .i64) x0.1)), (.d (.sl (.int .i64) x0.2))]), (.arr (.pair .str .str) ([] : List ((List UInt8) × (List UInt8))) true)]) := M.run_of_path _ [true, true, true, false, false, false, false, false, false, false, false, false] _ _ (by kernel_rfl) (all_t rfl (all_t rfl (all_t rfl (all_f c6 (all_f c6 (all_f c6 (all_f c6 (all_f c6 (all_f c6 (all_f c6 (all_f c6 (all_f Bool.false_ne_true all_nil))))))))))))
                  have hs0 : (turns (hds 15 3610) 0 3610 (evC byref (evCall F S4 (m + 24)) (m + 24) 0 (hds 15) lbu15_0) (m + 23) p15_e13 [(.cells [(.d (.sl (.int .i64) x0.1)), (.d (.sl (.int .i64) x0.2))]), (.arr (.pair .str .str) ([] : List ((List UInt8) × (List UInt8))) true)]).run = some (.exit 0, p15_e4, [(.cells [(.d (.sl (.int .i64) x0.1)), (.d (.sl (.int .i64) x0.2))]), (.arr (.pair .str .str) [(([99] : List UInt8), (p15_k3 x0))] true)]) := Eq.mp (by kernel_rfl) hp1
                  have hp0 := turns_step ht0 hs0
                  exact Eq.trans (Eq.mp (by kernel_rfl) hp0) hq
                cases hp
              · skip
                cases h
            · skip
              cases h
          · skip
            cases h
        · skip
          cases h
          refine ⟨(.d (.sl (.pair .str .str) ([] : List ((List UInt8) × (List UInt8))))), [], runT_ok (LS := (fun k => if k = 3610 then some (.exit 0, p15_e5, [(.cells [(.d (.sl (.int .i64) x0.1)), (.d (.sl (.int .i64) x0.2))]), (.arr (.pair .str .str) ([] : List ((List UInt8) × (List UInt8))) true)]) else none)) (fn := fn15) (vis := [(3610, p15_e6, [(.cells [(.d (.sl (.int .i64) x0.1)), (.d (.sl (.int .i64) x0.2))]), (.arr (.pair .str .str) ([] : List ((List UInt8) × (List UInt8))) true)])]) (by kernel_rfl) rfl (by kernel_rfl) (M.run_of_path _ [true, true, true, true] _ _ (by kernel_rfl) (all_t rfl (all_t rfl (all_t rfl (all_t rfl all_nil))))) ?_, by simp, (wkR.one (wkV.one (wk1.eq rfl))), trivial⟩
          intro p hp p2 hq
          rcases List.mem_cons.1 hp with rfl | hp
          · skip
            have ht3 : (turn (hds 15 3610) 0 3610 (evC byref (evCall F S4 (m + 24)) (m + 24) 0 (hds 15) lbu15_0) p15_e15 [(.cells [(.d (.sl (.int .i64) x0.1)), (.d (.sl (.int .i64) x0.2))]), (.arr (.pair .str .str) ([] : List ((List UInt8) × (List UInt8))) true)]).run = some (.exit 0, p15_e5, [(.cells [(.d (.sl (.int .i64) x0.1)), (.d (.sl (.int .i64) x0.2))]), (.arr (.pair .str .str) ([] : List ((List UInt8) × (List UInt8))) true)]) := M.run_of_path _ [false] _ _ (by kernel_rfl) (all_f Bool.false_ne_true all_nil)
            have hp3 := turns_last (n := m + 20) (by simp) ht3
            have ht2 : (turn (hds 15 3610) 0 3610 (evC byref (evCall F S4 (m + 24)) (m + 24) 0 (hds 15) lbu15_0) p15_e14 [(.cells [(.d (.sl (.int .i64) x0.1)), (.d (.sl (.int .i64) x0.2))]), (.arr (.pair .str .str) ([] : List ((List UInt8) × (List UInt8))) true)]).run = some (.normal, p15_e15, [(.cells [(.d (.sl (.int .i64) x0.1)), (.d (.sl (.int .i64) x0.2))]), (.arr (.pair .str .str) ([] : List ((List UInt8) × (List UInt8))) true)]) := M.run_of_path _ [true, true, true, true, true, true, true, true, true, true, true, true, true, false] _ _ (by kernel_rfl) (all_t rfl (all_t rfl (all_t rfl (all_t c30 (all_t c30 (all_t c30 (all_t c30 (all_t rfl (all_t c30 (all_t c30 (all_t c30 (all_t c30 (all_t c30 (all_f c40 all_nil))))))))))))))
            have hs2 : (turns (hds 15 3610) 0 3610 (evC byref (evCall F S4 (m + 24)) (m + 24) 0 (hds 15) lbu15_0) (m + 21) p15_e15 [(.cells [(.d (.sl (.int .i64) x0.1)), (.d (.sl (.int .i64) x0.2))]), (.arr (.pair .str .str) ([] : List ((List UInt8) × (List UInt8))) true)]).run = some (.exit 0, p15_e5, [(.cells [(.d (.sl (.int .i64) x0.1)), (.d (.sl (.int .i64) x0.2))]), (.arr (.pair .str .str) ([] : List ((List UInt8) × (List UInt8))) true)]) := Eq.mp (by kernel_rfl) hp3
            have hp2 := turns_step ht2 hs2
            have ht1 : (turn (hds 15 3610) 0 3610 (evC byref (evCall F S4 (m + 24)) (m + 24) 0 (hds 15) lbu15_0) p15_e13 [(.cells [(.d (.sl (.int .i64) x0.1)), (.d (.sl (.int .i64) x0.2))]), (.arr (.pair .str .str) ([] : List ((List UInt8) × (List UInt8))) true)]).run = some (.normal, p15_e14, [(.cells [(.d (.sl (.int .i64) x0.1)), (.d (.sl (.int .i64) x0.2))]), (.arr (.pair .str .str) ([] : List ((List UInt8) × (List UInt8))) true)]) := M.run_of_path _ [true, true, true, false, false, false, false, false, false, false, false, false] _ _ (by kernel_rfl) (all_t rfl (all_t rfl (all_t rfl (all_f c18 (all_f c18 (all_f c18 (all_f c18 (all_f c18 (all_f c18 (all_f c18 (all_f c18 (all_f Bool.false_ne_true all_nil))))))))))))
            have hs1 : (turns (hds 15 3610) 0 3610 (evC byref (evCall F S4 (m + 24)) (m + 24) 0 (hds 15) lbu15_0) (m + 22) p15_e14 [(.cells [(.d (.sl (.int .i64) x0.1)), (.d (.sl (.int .i64) x0.2))]), (.arr (.pair .str .str) ([] : List ((List UInt8) × (List UInt8))) true)]).run = some (.exit 0, p15_e5, [(.cells [(.d (.sl (.int .i64) x0.1)), (.d (.sl (.int .i64) x0.2))]), (.arr (.pair .str .str) ([] : List ((List UInt8) × (List UInt8))) true)]) := Eq.mp (by kernel_rfl) hp2
            have hp1 := turns_step ht1 hs1
            have ht0 : (turn (hds 15 3610) 0 3610 (evC byref (evCall F S4 (m + 24)) (m + 24) 0 (hds 15) lbu15_0) p15_e6 [(.cells [(.d (.sl (.int .i64) x0.1)), (.d (.sl (.int .i64) x0.2))]), (.arr (.pair .str .str) ([] : List ((List UInt8) × (List UInt8))) true)]).run = some (.normal, p15_e13, [(.cells [(.d (.sl (.int .i64) x0.1)), (.d (.sl (.int .i64) x0.2))]), (.arr (.pair .str .str) ([] : List ((List UInt8) × (List UInt8))) true)]) := M.run_of_path _ [true, true, true, false, false, false, false, false, false, false, false, false] _ _ (by kernel_rfl) (all_t rfl (all_t rfl (all_t rfl (all_f c6 (all_f c6 (all_f c6 (all_f c6 (all_f c6 (all_f c6 (all_f c6 (all_f c6 (all_f Bool.false_ne_true all_nil))))))))))))
            have hs0 : (turns (hds 15 3610) 0 3610 (evC byref (evCall F S4 (m + 24)) (m + 24) 0 (hds 15) lbu15_0) (m + 23) p15_e13 [(.cells [(.d (.sl (.int .i64) x0.1)), (.d (.sl (.int .i64) x0.2))]), (.arr (.pair .str .str) ([] : List ((List UInt8) × (List UInt8))) true)]).run = some (.exit 0, p15_e5, [(.cells [(.d (.sl (.int .i64) x0.1)), (.d (.sl (.int .i64) x0.2))]), (.arr (.pair .str .str) ([] : List ((List UInt8) × (List UInt8))) true)]) := Eq.mp (by kernel_rfl) hp1
            have hp0 := turns_step ht0 hs0
            exact Eq.trans (Eq.mp (by kernel_rfl) hp0) hq
          cases hp
      · skip
        cases h
        refine ⟨(.d (.sl (.pair .str .str) ([] : List ((List UInt8) × (List UInt8))))), [], runT_ok (LS := (fun k => if k = 3610 then some (.exit 0, p15_e5, [(.cells [(.d (.sl (.int .i64) x0.1)), (.d (.sl (.int .i64) x0.2))]), (.arr (.pair .str .str) ([] : List ((List UInt8) × (List UInt8))) true)]) else none)) (fn := fn15) (vis := [(3610, p15_e6, [(.cells [(.d (.sl (.int .i64) x0.1)), (.d (.sl (.int .i64) x0.2))]), (.arr (.pair .str .str) ([] : List ((List UInt8) × (List UInt8))) true)])]) (by kernel_rfl) rfl (by kernel_rfl) (M.run_of_path _ [true, true, true, true] _ _ (by kernel_rfl) (all_t rfl (all_t rfl (all_t rfl (all_t rfl all_nil))))) ?_, by simp, (wkR.one (wkV.one (wk1.eq rfl))), trivial⟩
        intro p hp p2 hq
        rcases List.mem_cons.1 hp with rfl | hp
        · skip
          have ht3 : (turn (hds 15 3610) 0 3610 (evC byref (evCall F S4 (m + 24)) (m + 24) 0 (hds 15) lbu15_0) p15_e15 [(.cells [(.d (.sl (.int .i64) x0.1)), (.d (.sl (.int .i64) x0.2))]), (.arr (.pair .str .str) ([] : List ((List UInt8) × (List UInt8))) true)]).run = some (.exit 0, p15_e5, [(.cells [(.d (.sl (.int .i64) x0.1)), (.d (.sl (.int .i64) x0.2))]), (.arr (.pair .str .str) ([] : List ((List UInt8) × (List UInt8))) true)]) := M.run_of_path _ [false] _ _ (by kernel_rfl) (all_f Bool.false_ne_true all_nil)
          have hp3 := turns_last (n := m + 20) (by simp) ht3
          have ht2 : (turn (hds 15 3610) 0 3610 (evC byref (evCall F S4 (m + 24)) (m + 24) 0 (hds 15) lbu15_0) p15_e14 [(.cells [(.d (.sl (.int .i64) x0.1)), (.d (.sl (.int .i64) x0.2))]), (.arr (.pair .str .str) ([] : List ((List UInt8) × (List UInt8))) true)]).run = some (.normal, p15_e15, [(.cells [(.d (.sl (.int .i64) x0.1)), (.d (.sl (.int .i64) x0.2))]), (.arr (.pair .str .str) ([] : List ((List UInt8) × (List UInt8))) true)]) := M.run_of_path _ [true, true, true, false, false, false, false, false, false, false, false, false] _ _ (by kernel_rfl) (all_t rfl (all_t rfl (all_t rfl (all_f c30 (all_f c30 (all_f c30 (all_f c30 (all_f c30 (all_f c30 (all_f c30 (all_f c30 (all_f Bool.false_ne_true all_nil))))))))))))
          have hs2 : (turns (hds 15 3610) 0 3610 (evC byref (evCall F S4 (m + 24)) (m + 24) 0 (hds 15) lbu15_0) (m + 21) p15_e15 [(.cells [(.d (.sl (.int .i64) x0.1)), (.d (.sl (.int .i64) x0.2))]), (.arr (.pair .str .str) ([] : List ((List UInt8) × (List UInt8))) true)]).run = some (.exit 0, p15_e5, [(.cells [(.d (.sl (.int .i64) x0.1)), (.d (.sl (.int .i64) x0.2))]), (.arr (.pair .str .str) ([] : List ((List UInt8) × (List UInt8))) true)]) := Eq.mp (by kernel_rfl) hp3
          have hp2 := turns_step ht2 hs2
          have ht1 : (turn (hds 15 3610) 0 3610 (evC byref (evCall F S4 (m + 24)) (m + 24) 0 (hds 15) lbu15_0) p15_e13 [(.cells [(.d (.sl (.int .i64) x0.1)), (.d (.sl (.int .i64) x0.2))]), (.arr (.pair .str .str) ([] : List ((List UInt8) × (List UInt8))) true)]).run = some (.normal, p15_e14, [(.cells [(.d (.sl (.int .i64) x0.1)), (.d (.sl (.int .i64) x0.2))]), (.arr (.pair .str .str) ([] : List ((List UInt8) × (List UInt8))) true)]) := M.run_of_path _ [true, true, true, false, false, false, false, false, false, false, false, false] _ _ (by kernel_rfl) (all_t rfl (all_t rfl (all_t rfl (all_f c18 (all_f c18 (all_f c18 (all_f c18 (all_f c18 (all_f c18 (all_f c18 (all_f c18 (all_f Bool.false_ne_true all_nil))))))))))))
          have hs1 : (turns (hds 15 3610) 0 3610 (evC byref (evCall F S4 (m + 24)) (m + 24) 0 (hds 15) lbu15_0) (m + 22) p15_e14 [(.cells [(.d (.sl (.int .i64) x0.1)), (.d (.sl (.int .i64) x0.2))]), (.arr (.pair .str .str) ([] : List ((List UInt8) × (List UInt8))) true)]).run = some (.exit 0, p15_e5, [(.cells [(.d (.sl (.int .i64) x0.1)), (.d (.sl (.int .i64) x0.2))]), (.arr (.pair .str .str) ([] : List ((List UInt8) × (List UInt8))) true)]) := Eq.mp (by kernel_rfl) hp2
          have hp1 := turns_step ht1 hs1
          have ht0 : (turn (hds 15 3610) 0 3610 (evC byref (evCall F S4 (m + 24)) (m + 24) 0 (hds 15) lbu15_0) p15_e6 [(.cells [(.d (.sl (.int .i64) x0.1)), (.d (.sl (.int .i64) x0.2))]), (.arr (.pair .str .str) ([] : List ((List UInt8) × (List UInt8))) true)]).run = some (.normal, p15_e13, [(.cells [(.d (.sl (.int .i64) x0.1)), (.d (.sl (.int .i64) x0.2))]), (.arr (.pair .str .str) ([] : List ((List UInt8) × (List UInt8))) true)]) := M.run_of_path _ [true, true, true, false, false, false, false, false, false, false, false, false] _ _ (by kernel_rfl) (all_t rfl (all_t rfl (all_t rfl (all_f c6 (all_f c6 (all_f c6 (all_f c6 (all_f c6 (all_f c6 (all_f c6 (all_f c6 (all_f Bool.false_ne_true all_nil))))))))))))
          have hs0 : (turns (hds 15 3610) 0 3610 (evC byref (evCall F S4 (m + 24)) (m + 24) 0 (hds 15) lbu15_0) (m + 23) p15_e13 [(.cells [(.d (.sl (.int .i64) x0.1)), (.d (.sl (.int .i64) x0.2))]), (.arr (.pair .str .str) ([] : List ((List UInt8) × (List UInt8))) true)]).run = some (.exit 0, p15_e5, [(.cells [(.d (.sl (.int .i64) x0.1)), (.d (.sl (.int .i64) x0.2))]), (.arr (.pair .str .str) ([] : List ((List UInt8) × (List UInt8))) true)]) := Eq.mp (by kernel_rfl) hp1
          have hp0 := turns_step ht0 hs0
          exact Eq.trans (Eq.mp (by kernel_rfl) hp0) hq
        cases hp

def valuesG : List (List UInt8) := [([120] : List UInt8), ([121] : List UInt8), ([120, 121] : List UInt8), ([49] : List UInt8), ([34] : List UInt8), ([92] : List UInt8), ([123, 125] : List UInt8), ([122, 32, 122] : List UInt8)]
def bit1 (l : List Int) (i : Int) (j : Nat) : Bool := decide (i < (((List.length l) : Nat) : Int)) && ((IntKind.wrap .i64 ((((BitVec.ofInt 64 (List.getD l j 0) &&& BitVec.ofInt 64 (1)).toNat : Nat) : Int))) == (1))
def valG (l : List Int) (i : Int) : List UInt8 := List.getD valuesG (Int.toNat (withinI (pickG l i) (0) (7))) ([] : List UInt8)
/-- A set of numbers. -/
def setG (k : List Int × List Int) : LB := (if bit1 k.1 0 0 then [(([97] : List UInt8), valG k.2 0)] else []) ++ (if bit1 k.1 1 1 then [(([98] : List UInt8), valG k.2 1)] else []) ++ (if bit1 k.1 2 2 then [(([99] : List UInt8), valG k.2 2)] else [])
theorem set15 (k : List Int × List Int) (_ : true = true) : ∃ m, p15 m k = some (setG k) := by
  refine ⟨0, ?_⟩
  have p0 : pickPre k.2 (0) = true := decide_eq_true (by omega)
  have p1 : pickPre k.2 (1) = true := decide_eq_true (by omega)
  have p2 : pickPre k.2 (2) = true := decide_eq_true (by omega)
  have w : ∀ n : Int, 0 ≤ withinI n (0) (7) ∧ withinI n (0) (7) < 8 := fun n => by unfold withinI; omega
  have w1 : ∀ n : Int, decide (0 ≤ (withinI n (0) (7))) = true := fun n => decide_eq_true (w n).1
  have w2 : ∀ n : Int, decide ((withinI n (0) (7)) < 8) = true := fun n => decide_eq_true (w n).2
  unfold p15 setG bit1 valG valuesG
  simp only [p0, p1, p2, w1, w2, ↓reduceIte]
  generalize decide (0 < (((List.length k.1) : Nat) : Int)) = a0
  generalize decide (1 < (((List.length k.1) : Nat) : Int)) = a1
  generalize decide (2 < (((List.length k.1) : Nat) : Int)) = a2
  generalize ((IntKind.wrap .i64 ((((BitVec.ofInt 64 (List.getD k.1 0 0) &&& BitVec.ofInt 64 (1)).toNat : Nat) : Int))) == (1)) = b0
  generalize ((IntKind.wrap .i64 ((((BitVec.ofInt 64 (List.getD k.1 1 0) &&& BitVec.ofInt 64 (1)).toNat : Nat) : Int))) == (1)) = b1
  generalize ((IntKind.wrap .i64 ((((BitVec.ofInt 64 (List.getD k.1 2 0) &&& BitVec.ofInt 64 (1)).toNat : Nat) : Int))) == (1)) = b2
  cases a0 <;> cases b0 <;> cases a1 <;> cases b1 <;> cases a2 <;> cases b2 <;> rfl
def s15 : List AV → Boxes → M (AV × Boxes) := normS [.val (.pair (.sl (.int .i64)) (.sl (.int .i64)))] [] fun xs B => match xs, B with
  | [(.agg [(.d (.sl (.int .i64) c1)), (.d (.sl (.int .i64) c2))])], [] => .chk (true) (.ret ((.d (.sl (.pair .str .str) (setG ((c1, c2))))), []))
  | _, _ => .fail
theorem s15_at : CallAt Tryd.prog 15 s15 := by
  refine CallAt.norm (CallAt.weakE (g := fun n => evCall F S4 n 15) (fun n => evCall_atH mixed kinds hds S4 S4_ok n 15) fun xs B r' B' hr => ?_) _ _
  split at hr
  · rename_i c1 c2
    obtain ⟨hp, hr⟩ := (M.run_chk _ _ _).1 hr
    simp only [M.run, Option.some.injEq, Prod.mk.injEq] at hr
    obtain ⟨rfl, rfl⟩ := hr
    obtain ⟨m, hm⟩ := set15 ((c1, c2)) hp
    obtain ⟨r, B1, h1, h2, h3, h4⟩ := p15_ok m ((c1, c2)) _ hm
    exact ⟨m + 25, r, B1, h1, by simp, h2, h3, h4⟩
  · simp [M.run] at hr
noncomputable def S5 : FuncId → Option (List AV → Boxes → M (AV × Boxes)) := fun f => if f = 15 then some s15 else S4 f
set_option maxHeartbeats 20000000 in
theorem S5_ok : ∀ f s, S5 f = some s → CallAt Tryd.prog f s := by
  intro f s h
  unfold S5 at h
  split at h
  · rename_i e; subst e; cases h; exact s15_at
  · exact S4_ok f s h

end Go.Proofs.YtghkbjflejgieaaDoor.Dec
namespace Go.Proofs.YtghkbjflejgieaaDoor.Dec
open Go.Ev
set_option linter.unusedVariables false
set_option linter.unusedSimpArgs false
set_option maxRecDepth 100000
theorem runs6 : Known Tryd.prog 6 [] (.d (.bool true)) := known Go.Proofs.YtghkbjflejgieaaDoor.Ev.mixed (kinds := Go.Proofs.YtghkbjflejgieaaDoor.Ev.kinds) (n := 300) Go.Proofs.YtghkbjflejgieaaDoor.Ev.S_ok (by kernel_rfl)
def trueG : List D → M AV
  | [] => .ret (.d (.bool true))
  | _ => .fail
theorem true6 : CallAt Tryd.prog 6 (plainV trueG) := by
  refine plainV_at fun ds r hr => ?_
  unfold trueG at hr
  split at hr
  · simp only [M.run, Option.some.injEq] at hr
    subst hr
    exact runs6
  · simp [M.run] at hr
theorem runs3 : Known Tryd.prog 3 [] (.d (.bool true)) := known Go.Proofs.YtghkbjflejgieaaDoor.Ev.mixed (kinds := Go.Proofs.YtghkbjflejgieaaDoor.Ev.kinds) (n := 300) Go.Proofs.YtghkbjflejgieaaDoor.Ev.S_ok (by kernel_rfl)
theorem true3 : CallAt Tryd.prog 3 (plainV trueG) := by
  refine plainV_at fun ds r hr => ?_
  unfold trueG at hr
  split at hr
  · simp only [M.run, Option.some.injEq] at hr
    subst hr
    exact runs3
  · simp [M.run] at hr

noncomputable def S6 : FuncId → Option (List AV → Boxes → M (AV × Boxes)) := fun f => if f = 6 then some (plainV trueG) else S5 f
set_option maxHeartbeats 20000000 in
theorem S6_ok : ∀ f s, S6 f = some s → CallAt Tryd.prog f s := by
  intro f s h
  unfold S6 at h
  split at h
  · rename_i e; subst e; cases h; exact true6
  · exact S5_ok f s h

noncomputable def S7 : FuncId → Option (List AV → Boxes → M (AV × Boxes)) := fun f => if f = 3 then some (plainV trueG) else S6 f
set_option maxHeartbeats 20000000 in
theorem S7_ok : ∀ f s, S7 f = some s → CallAt Tryd.prog f s := by
  intro f s h
  unfold S7 at h
  split at h
  · rename_i e; subst e; cases h; exact true3
  · exact S6_ok f s h

end Go.Proofs.YtghkbjflejgieaaDoor.Dec
namespace Go.Proofs.YtghkbjflejgieaaDoor.Dec
open Go.Ev
set_option linter.unusedVariables false
set_option linter.unusedSimpArgs false
set_option maxRecDepth 100000
noncomputable def S8 : FuncId → Option (List AV → Boxes → M (AV × Boxes)) := fun f => if f = 52 then some (plainV trimG) else S7 f
set_option maxHeartbeats 20000000 in
theorem S8_ok : ∀ f s, S8 f = some s → CallAt Tryd.prog f s := by
  intro f s h
  unfold S8 at h
  split at h
  · rename_i e; subst e; cases h; exact Go.Proofs.YtghkbjflejgieaaDoor.Ev.libstringsTrim
  · exact S7_ok f s h

noncomputable def S9 : FuncId → Option (List AV → Boxes → M (AV × Boxes)) := fun f => if f = 46 then some (plainV joinG) else S8 f
set_option maxHeartbeats 20000000 in
theorem S9_ok : ∀ f s, S9 f = some s → CallAt Tryd.prog f s := by
  intro f s h
  unfold S9 at h
  split at h
  · rename_i e; subst e; cases h; exact Go.Proofs.YtghkbjflejgieaaDoor.Ev.libstringsJoin
  · exact S8_ok f s h

noncomputable def S10 : FuncId → Option (List AV → Boxes → M (AV × Boxes)) := fun f => if f = 68 then some (copyCheckS 85) else S9 f
set_option maxHeartbeats 20000000 in
theorem S10_ok : ∀ f s, S10 f = some s → CallAt Tryd.prog f s := by
  intro f s h
  unfold S10 at h
  split at h
  · rename_i e; subst e; cases h; exact Go.Proofs.YtghkbjflejgieaaDoor.Ev.libCopyCheck
  · exact S9_ok f s h

end Go.Proofs.YtghkbjflejgieaaDoor.Dec
namespace Go.Proofs.YtghkbjflejgieaaDoor.Dec
open Go.Ev
set_option linter.unusedVariables false
set_option linter.unusedSimpArgs false
set_option maxRecDepth 100000
noncomputable def fn36 : AFn := (F 36).getD ⟨0, [], .bad, false, false, noHd⟩
noncomputable def body36 : AC := fn36.body
def p36 (m : Nat) (x0 : List UInt8) : Option (Bool) :=
  if (x0 == ([] : List UInt8)) = true then
    some (false)
  else
    if decide ((((List.length x0) : Nat) : Int) > 24) = true then
      some (false)
    else
      if decide (0 < (((List.length x0) : Nat) : Int)) = true then
        if decide ((Lib.indexByte ([97, 98, 99, 100, 101, 102, 103, 104, 105, 106, 107, 108, 109, 110, 111, 112, 113, 114, 115, 116, 117, 118, 119, 120, 121, 122] : List UInt8) (Nat.toUInt8 (Int.toNat ((UInt8.toNat (List.getD x0 0 0) : Nat) : Int)))) < 0) = true then
          some (false)
        else
          if ((decide (List.length x0 ≤ 9223372036854775807) && decide (List.length ([97, 98, 99, 100, 101, 102, 103, 104, 105, 106, 107, 108, 109, 110, 111, 112, 113, 114, 115, 116, 117, 118, 119, 120, 121, 122, 48, 49, 50, 51, 52, 53, 54, 55, 56, 57, 95] : List UInt8) < 4294967281)) && asciiB ([97, 98, 99, 100, 101, 102, 103, 104, 105, 106, 107, 108, 109, 110, 111, 112, 113, 114, 115, 116, 117, 118, 119, 120, 121, 122, 48, 49, 50, 51, 52, 53, 54, 55, 56, 57, 95] : List UInt8)) = true then
            some (((Lib.trimS x0 ([97, 98, 99, 100, 101, 102, 103, 104, 105, 106, 107, 108, 109, 110, 111, 112, 113, 114, 115, 116, 117, 118, 119, 120, 121, 122, 48, 49, 50, 51, 52, 53, 54, 55, 56, 57, 95] : List UInt8)) == ([] : List UInt8)))
          else
            none
      else
        none
set_option maxHeartbeats 20000000 in
theorem p36_ok (m : Nat) (x0 : List UInt8) (q : Bool) (h : p36 m x0 = some q) : ∃ r B1, (evCall F S10 (m + 25) 36 [(.d (.str x0))] []).run = some (r, B1) ∧ 0 ≤ B1.length ∧ wkR B1 [] r (.d (.bool (q))) ∧ wkBs B1 [] 0 [] := by
  unfold p36 at h
  refine ite_cases h (fun c0 h => ?_) (fun c0 h => ?_)
  · skip
    cases h
    refine ⟨(.d (.bool false)), [], runT_ok (LS := (fun k => none)) (fn := fn36) (vis := []) (by kernel_rfl) rfl (by kernel_rfl) (M.run_of_path _ [true, true, true, true, true, true, true, true, true, true] _ _ (by kernel_rfl) (all_t c0 (all_t c0 (all_t c0 (all_t c0 (all_t rfl (all_t rfl (all_t rfl (all_t rfl (all_t rfl (all_t rfl all_nil))))))))))) ?_, by simp, (wkR.one (wkV.one (wk1.eq rfl))), trivial⟩
    intro p hp; cases hp
  · skip
    refine ite_cases h (fun c4 h => ?_) (fun c4 h => ?_)
    · skip
      cases h
      refine ⟨(.d (.bool false)), [], runT_ok (LS := (fun k => none)) (fn := fn36) (vis := []) (by kernel_rfl) rfl (by kernel_rfl) (M.run_of_path _ [false, false, false, false, true, true, true, true, true, true] _ _ (by kernel_rfl) (all_f c0 (all_f c0 (all_f c0 (all_f c0 (all_t c4 (all_t c4 (all_t c4 (all_t c4 (all_t c4 (all_t rfl all_nil))))))))))) ?_, by simp, (wkR.one (wkV.one (wk1.eq rfl))), trivial⟩
      intro p hp; cases hp
    · skip
      refine ite_cases h (fun c7 h => ?_) (fun c7 h => ?_)
      · skip
        refine ite_cases h (fun c11 h => ?_) (fun c11 h => ?_)
        · skip
          cases h
          refine ⟨(.d (.bool false)), [], runT_ok (LS := (fun k => none)) (fn := fn36) (vis := []) (by kernel_rfl) rfl (by kernel_rfl) (M.run_of_path _ [false, false, false, false, false, false, true, true, false, false, false, true] _ _ (by kernel_rfl) (all_f c0 (all_f c0 (all_f c0 (all_f c0 (all_f c4 (all_f c4 (all_t rfl (all_t c7 (all_f c4 (all_f c4 (all_f c4 (all_t c11 all_nil))))))))))))) ?_, by simp, (wkR.one (wkV.one (wk1.eq rfl))), trivial⟩
          intro p hp; cases hp
        · skip
          refine ite_cases h (fun c12 h => ?_) (fun c12 h => ?_)
          · skip
            cases h
            refine ⟨(.d (.bool ((Lib.trimS x0 ([97, 98, 99, 100, 101, 102, 103, 104, 105, 106, 107, 108, 109, 110, 111, 112, 113, 114, 115, 116, 117, 118, 119, 120, 121, 122, 48, 49, 50, 51, 52, 53, 54, 55, 56, 57, 95] : List UInt8)) == ([] : List UInt8)))), [], runT_ok (LS := (fun k => none)) (fn := fn36) (vis := []) (by kernel_rfl) rfl (by kernel_rfl) (M.run_of_path _ [false, false, false, false, false, false, true, true, false, false, false, false, true] _ _ (by kernel_rfl) (all_f c0 (all_f c0 (all_f c0 (all_f c0 (all_f c4 (all_f c4 (all_t rfl (all_t c7 (all_f c4 (all_f c4 (all_f c4 (all_f c11 (all_t c12 all_nil)))))))))))))) ?_, by simp, (wkR.one (wkV.one (wk1.eq rfl))), trivial⟩
            intro p hp; cases hp
          · skip
            cases h
      · skip
        cases h

def smallB : List UInt8 := ([97, 98, 99, 100, 101, 102, 103, 104, 105, 106, 107, 108, 109, 110, 111, 112, 113, 114, 115, 116, 117, 118, 119, 120, 121, 122] : List UInt8)
def wordsB : List UInt8 := ([97, 98, 99, 100, 101, 102, 103, 104, 105, 106, 107, 108, 109, 110, 111, 112, 113, 114, 115, 116, 117, 118, 119, 120, 121, 122, 48, 49, 50, 51, 52, 53, 54, 55, 56, 57, 95] : List UInt8)
def letterB (c : UInt8) : Bool := decide (97 ≤ UInt8.toNat c) && decide (UInt8.toNat c ≤ 122)
def innerB (c : UInt8) : Bool := letterB c || (UInt8.toNat c == 95) || (decide (48 ≤ UInt8.toNat c) && decide (UInt8.toNat c ≤ 57))
/-- May a text be a name? -/
def wordG (s : List UInt8) : Bool := decide (1 ≤ s.length) && decide (s.length ≤ 24) && letterB (s.getD 0 0) && s.all innerB
theorem small_all : ∀ k, k < 256 → decide (Lib.indexByte smallB (Nat.toUInt8 k) < 0) = !(decide (97 ≤ k) && decide (k ≤ 122)) := by decide +kernel
theorem words_all : ∀ k, k < 256 → wordsB.contains (Nat.toUInt8 k) = innerB (Nat.toUInt8 k) := by decide +kernel
theorem u8_round (c : UInt8) : Nat.toUInt8 (UInt8.toNat c) = c := UInt8.ofNat_toNat
theorem words_one (c : UInt8) : wordsB.contains c = innerB c := by
  have := words_all (UInt8.toNat c) (UInt8.toNat_lt c)
  rwa [u8_round] at this
theorem small_one (c : UInt8) : decide (Lib.indexByte smallB (Nat.toUInt8 (Int.toNat ((UInt8.toNat c : Nat) : Int))) < 0) = !letterB c := by
  rw [Int.toNat_natCast]
  exact small_all (UInt8.toNat c) (UInt8.toNat_lt c)
theorem dropW_nil {p : UInt8 → Bool} : ∀ (l : List UInt8), (∀ x ∈ l.dropWhile p, p x = true) → l.dropWhile p = []
  | [], _ => rfl
  | a :: l, h => by
    rw [List.dropWhile_cons] at h ⊢
    by_cases ha : p a = true
    · rw [if_pos ha] at h ⊢; exact dropW_nil l h
    · rw [if_neg ha] at h; exact absurd (h a (List.mem_cons_self ..)) ha
theorem dropW_all {p : UInt8 → Bool} : ∀ (l : List UInt8), l.dropWhile p = [] → l.all p = true
  | [], _ => rfl
  | a :: l, h => by
    rw [List.dropWhile_cons] at h
    by_cases ha : p a = true
    · rw [if_pos ha] at h; rw [List.all_cons, ha, dropW_all l h]; rfl
    · rw [if_neg ha] at h; cases h
theorem all_dropW {p : UInt8 → Bool} : ∀ (l : List UInt8), l.all p = true → l.dropWhile p = []
  | [], _ => rfl
  | a :: l, h => by
    rw [List.all_cons, Bool.and_eq_true] at h
    rw [List.dropWhile_cons, if_pos h.1, all_dropW l h.2]
theorem trim_nil (l cs : List UInt8) : (Lib.trimS l cs == ([] : List UInt8)) = l.all (cs.contains ·) := by
  rw [Bool.eq_iff_iff, beq_iff_eq]
  show ((l.reverse.dropWhile (cs.contains ·)).reverse).dropWhile (cs.contains ·) = [] ↔ _
  constructor
  · intro h
    have h1 := dropW_all _ h
    rw [List.all_reverse] at h1
    have h2 := dropW_nil l.reverse (fun x hx => List.all_eq_true.1 h1 x hx)
    have h3 := dropW_all _ h2
    rwa [List.all_reverse] at h3
  · intro h
    have h1 : l.reverse.all (cs.contains ·) = true := by rw [List.all_reverse]; exact h
    rw [all_dropW _ h1]; rfl
theorem word36 (s : List UInt8) (h : decide (s.length ≤ 9223372036854775807) = true) : ∃ m, p36 m s = some (wordG s) := by
  have h := of_decide_eq_true h
  refine ⟨0, ?_⟩
  unfold p36 wordG
  cases s with
  | nil => rfl
  | cons a l =>
    have e0 : ((a :: l) == ([] : List UInt8)) = false := rfl
    rw [e0, if_neg (by simp)]
    have e1 : decide (1 ≤ (a :: l).length) = true := decide_eq_true (by simp)
    rw [e1, Bool.true_and]
    by_cases h24 : (a :: l).length ≤ 24
    · have e2 : decide ((((List.length (a :: l)) : Nat) : Int) > 24) = false := decide_eq_false (by omega)
      have e3 : decide (0 < (((List.length (a :: l)) : Nat) : Int)) = true := decide_eq_true (by simp)
      have e4 : decide ((a :: l).length ≤ 24) = true := decide_eq_true h24
      rw [e2, if_neg (by simp), if_pos e3, e4, Bool.true_and]
      have hs := small_one ((a :: l).getD 0 0)
      unfold smallB at hs
      rw [hs]
      cases hL : letterB ((a :: l).getD 0 0) with
      | false => rfl
      | true =>
        rw [if_neg (by simp), Bool.true_and]
        have ht := trim_nil (a :: l) wordsB
        have hw : (fun x => wordsB.contains x) = innerB := funext words_one
        rw [hw] at ht
        unfold wordsB at ht
        rw [ht]
        rw [if_pos]
        rw [Bool.and_eq_true, Bool.and_eq_true]
        exact ⟨⟨decide_eq_true h, by decide⟩, by decide +kernel⟩
    · have e2 : decide ((((List.length (a :: l)) : Nat) : Int) > 24) = true := decide_eq_true (by omega)
      have e4 : decide ((a :: l).length ≤ 24) = false := decide_eq_false h24
      rw [if_pos e2, e4]; rfl
def s36 : List AV → Boxes → M (AV × Boxes) := normS [.val .str] [] fun xs B => match xs, B with
  | [(.d (.str c1))], [] => .chk (decide (List.length c1 ≤ 9223372036854775807)) (.ret ((.d (.bool (wordG c1))), []))
  | _, _ => .fail
theorem s36_at : CallAt Tryd.prog 36 s36 := by
  refine CallAt.norm (CallAt.weakE (g := fun n => evCall F S10 n 36) (fun n => evCall_atH mixed kinds hds S10 S10_ok n 36) fun xs B r' B' hr => ?_) _ _
  split at hr
  · rename_i c1
    obtain ⟨hp, hr⟩ := (M.run_chk _ _ _).1 hr
    simp only [M.run, Option.some.injEq, Prod.mk.injEq] at hr
    obtain ⟨rfl, rfl⟩ := hr
    obtain ⟨m, hm⟩ := word36 c1 hp
    obtain ⟨r, B1, h1, h2, h3, h4⟩ := p36_ok m c1 _ hm
    exact ⟨m + 25, r, B1, h1, by simp, h2, h3, h4⟩
  · simp [M.run] at hr
noncomputable def S11 : FuncId → Option (List AV → Boxes → M (AV × Boxes)) := fun f => if f = 36 then some s36 else S10 f
set_option maxHeartbeats 20000000 in
theorem S11_ok : ∀ f s, S11 f = some s → CallAt Tryd.prog f s := by
  intro f s h
  unfold S11 at h
  split at h
  · rename_i e; subst e; cases h; exact s36_at
  · exact S10_ok f s h

end Go.Proofs.YtghkbjflejgieaaDoor.Dec
namespace Go.Proofs.YtghkbjflejgieaaDoor.Dec
open Go.Ev
set_option linter.unusedVariables false
set_option linter.unusedSimpArgs false
set_option maxRecDepth 100000
noncomputable def fn26 : AFn := (F 26).getD ⟨0, [], .bad, false, false, noHd⟩
noncomputable def body26 : AC := fn26.body
def l26_0 (m : Nat) : Nat → List ((List UInt8) × (List UInt8) × Int) → Int → Int → Option (Nat × Int)
  | 0, _, _, _ => none
  | n + 1, x0, s6, s7 => if decide (s7 < s6) = true then
      if decide (0 ≤ s7) = true then
        if decide (s7 < (((List.length x0) : Nat) : Int)) = true then
          if decide (List.length (List.getD x0 (Int.toNat s7) (([] : List UInt8), (([] : List UInt8), 0))).1 ≤ 9223372036854775807) = true then
            if (wordG (List.getD x0 (Int.toNat s7) (([] : List UInt8), (([] : List UInt8), 0))).1) = true then
              if decide ((((List.length (List.getD x0 (Int.toNat s7) (([] : List UInt8), (([] : List UInt8), 0))).2.1) : Nat) : Int) > 24) = true then
                some (1, s7)
              else
                if ((List.getD x0 (Int.toNat s7) (([] : List UInt8), (([] : List UInt8), 0))).2.2 == (1)) = true then
                  if (([61] : List UInt8) == ([] : List UInt8)) = true then
                    some (2, s7)
                  else
                    l26_0 m n x0 s6 ((IntKind.wrap .i64 (s7 + (1))))
                else
                  if ((List.getD x0 (Int.toNat s7) (([] : List UInt8), (([] : List UInt8), 0))).2.2 == (2)) = true then
                    if (([33, 61] : List UInt8) == ([] : List UInt8)) = true then
                      some (3, s7)
                    else
                      l26_0 m n x0 s6 ((IntKind.wrap .i64 (s7 + (1))))
                  else
                    if ((List.getD x0 (Int.toNat s7) (([] : List UInt8), (([] : List UInt8), 0))).2.2 == (3)) = true then
                      if (([94, 61] : List UInt8) == ([] : List UInt8)) = true then
                        some (4, s7)
                      else
                        l26_0 m n x0 s6 ((IntKind.wrap .i64 (s7 + (1))))
                    else
                      if ((List.getD x0 (Int.toNat s7) (([] : List UInt8), (([] : List UInt8), 0))).2.2 == (4)) = true then
                        if (([33, 94] : List UInt8) == ([] : List UInt8)) = true then
                          some (5, s7)
                        else
                          l26_0 m n x0 s6 ((IntKind.wrap .i64 (s7 + (1))))
                      else
                        if (([] : List UInt8) == ([] : List UInt8)) = true then
                          some (6, s7)
                        else
                          l26_0 m n x0 s6 ((IntKind.wrap .i64 (s7 + (1))))
            else
              some (0, s7)
          else
            none
        else
          none
      else
        none
    else
      some (7, s7)
def l26_0D : Nat × Int := (0, 0)
@[reducible] def l26_0R (m n : Nat) (x0 : List ((List UInt8) × (List UInt8) × Int)) (s6 : Int) (s7 : Int) : Nat × Int := Option.getD (l26_0 m n x0 s6 s7) l26_0D
def l26_0H (x0 : List ((List UInt8) × (List UInt8) × Int)) (s6 : Int) (s7 : Int) : Env := [(.d (.sl (.pair .str (.pair .str (.int .i64))) x0)), .top, .top, .top, .top, (.d (.sl (.pair .str (.pair .str (.int .i64))) x0)), (.d (.int .i64 s6)), (.d (.int .i64 s7)), .top, .top, .top, .top, .top, .top, .top, .top, .top, .top, .top, .top, .top, .top, .top, .top, .top, .top, .top, .top, .top, .top, .top]
def l26_0B (x0 : List ((List UInt8) × (List UInt8) × Int)) (s6 : Int) (s7 : Int) : Boxes := []
def l26_0E (x0 : List ((List UInt8) × (List UInt8) × Int)) (s6 : Int) (s7 : Int) : Nat → AEx × Env × Boxes
  | 0 => (.ret, [(.d (.sl (.pair .str (.pair .str (.int .i64))) x0)), .top, (.d (.bool false)), .top, (.ptr 0 0), (.d (.sl (.pair .str (.pair .str (.int .i64))) x0)), (.d (.int .i64 s6)), (.d (.int .i64 s7)), (.d (.bool (decide (s7 < s6)))), (.cptr [(.str (List.getD x0 (Int.toNat s7) (([] : List UInt8), (([] : List UInt8), 0))).1), (.str (List.getD x0 (Int.toNat s7) (([] : List UInt8), (([] : List UInt8), 0))).2.1), (.int .i64 (List.getD x0 (Int.toNat s7) (([] : List UInt8), (([] : List UInt8), 0))).2.2)] 0), (.agg [(.d (.str (List.getD x0 (Int.toNat s7) (([] : List UInt8), (([] : List UInt8), 0))).1)), (.d (.str (List.getD x0 (Int.toNat s7) (([] : List UInt8), (([] : List UInt8), 0))).2.1)), (.d (.int .i64 (List.getD x0 (Int.toNat s7) (([] : List UInt8), (([] : List UInt8), 0))).2.2))]), (.ptr 0 0), (.d (.str (List.getD x0 (Int.toNat s7) (([] : List UInt8), (([] : List UInt8), 0))).1)), (.d (.bool (wordG (List.getD x0 (Int.toNat s7) (([] : List UInt8), (([] : List UInt8), 0))).1))), (.d (.bool (!(wordG (List.getD x0 (Int.toNat s7) (([] : List UInt8), (([] : List UInt8), 0))).1)))), (.d (.bool (!(wordG (List.getD x0 (Int.toNat s7) (([] : List UInt8), (([] : List UInt8), 0))).1)))), (.tup []), (.tup []), (.tup []), (.tup []), (.d (.bool true)), (.d (.bool true)), (.tup []), (.tup []), (.tup []), (.tup []), (.d (.bool true)), .top, .top, .top, .top], [(.cells [(.d (.str (List.getD x0 (Int.toNat s7) (([] : List UInt8), (([] : List UInt8), 0))).1)), (.d (.str (List.getD x0 (Int.toNat s7) (([] : List UInt8), (([] : List UInt8), 0))).2.1)), (.d (.int .i64 (List.getD x0 (Int.toNat s7) (([] : List UInt8), (([] : List UInt8), 0))).2.2))])])
  | 1 => (.ret, [(.d (.sl (.pair .str (.pair .str (.int .i64))) x0)), .top, (.d (.bool false)), .top, (.ptr 0 0), (.d (.sl (.pair .str (.pair .str (.int .i64))) x0)), (.d (.int .i64 s6)), (.d (.int .i64 s7)), (.d (.bool (decide (s7 < s6)))), (.cptr [(.str (List.getD x0 (Int.toNat s7) (([] : List UInt8), (([] : List UInt8), 0))).1), (.str (List.getD x0 (Int.toNat s7) (([] : List UInt8), (([] : List UInt8), 0))).2.1), (.int .i64 (List.getD x0 (Int.toNat s7) (([] : List UInt8), (([] : List UInt8), 0))).2.2)] 0), (.agg [(.d (.str (List.getD x0 (Int.toNat s7) (([] : List UInt8), (([] : List UInt8), 0))).1)), (.d (.str (List.getD x0 (Int.toNat s7) (([] : List UInt8), (([] : List UInt8), 0))).2.1)), (.d (.int .i64 (List.getD x0 (Int.toNat s7) (([] : List UInt8), (([] : List UInt8), 0))).2.2))]), (.ptr 0 0), (.d (.str (List.getD x0 (Int.toNat s7) (([] : List UInt8), (([] : List UInt8), 0))).1)), (.d (.bool (wordG (List.getD x0 (Int.toNat s7) (([] : List UInt8), (([] : List UInt8), 0))).1))), (.d (.bool (!(wordG (List.getD x0 (Int.toNat s7) (([] : List UInt8), (([] : List UInt8), 0))).1)))), (.d (.bool (!(wordG (List.getD x0 (Int.toNat s7) (([] : List UInt8), (([] : List UInt8), 0))).1)))), (.ptr 0 1), (.d (.str (List.getD x0 (Int.toNat s7) (([] : List UInt8), (([] : List UInt8), 0))).2.1)), (.d (.int .i64 (((List.length (List.getD x0 (Int.toNat s7) (([] : List UInt8), (([] : List UInt8), 0))).2.1) : Nat) : Int))), (.d (.bool (decide ((((List.length (List.getD x0 (Int.toNat s7) (([] : List UInt8), (([] : List UInt8), 0))).2.1) : Nat) : Int) > 24)))), (.d (.bool (decide ((((List.length (List.getD x0 (Int.toNat s7) (([] : List UInt8), (([] : List UInt8), 0))).2.1) : Nat) : Int) > 24)))), (.d (.bool (decide ((((List.length (List.getD x0 (Int.toNat s7) (([] : List UInt8), (([] : List UInt8), 0))).2.1) : Nat) : Int) > 24)))), (.tup []), (.tup []), (.tup []), (.tup []), (.d (.bool true)), .top, .top, .top, .top], [(.cells [(.d (.str (List.getD x0 (Int.toNat s7) (([] : List UInt8), (([] : List UInt8), 0))).1)), (.d (.str (List.getD x0 (Int.toNat s7) (([] : List UInt8), (([] : List UInt8), 0))).2.1)), (.d (.int .i64 (List.getD x0 (Int.toNat s7) (([] : List UInt8), (([] : List UInt8), 0))).2.2))])])
  | 2 => (.ret, [(.d (.sl (.pair .str (.pair .str (.int .i64))) x0)), .top, (.d (.bool false)), .top, (.ptr 0 0), (.d (.sl (.pair .str (.pair .str (.int .i64))) x0)), (.d (.int .i64 s6)), (.d (.int .i64 s7)), (.d (.bool (decide (s7 < s6)))), (.cptr [(.str (List.getD x0 (Int.toNat s7) (([] : List UInt8), (([] : List UInt8), 0))).1), (.str (List.getD x0 (Int.toNat s7) (([] : List UInt8), (([] : List UInt8), 0))).2.1), (.int .i64 (List.getD x0 (Int.toNat s7) (([] : List UInt8), (([] : List UInt8), 0))).2.2)] 0), (.agg [(.d (.str (List.getD x0 (Int.toNat s7) (([] : List UInt8), (([] : List UInt8), 0))).1)), (.d (.str (List.getD x0 (Int.toNat s7) (([] : List UInt8), (([] : List UInt8), 0))).2.1)), (.d (.int .i64 (List.getD x0 (Int.toNat s7) (([] : List UInt8), (([] : List UInt8), 0))).2.2))]), (.ptr 0 0), (.d (.str (List.getD x0 (Int.toNat s7) (([] : List UInt8), (([] : List UInt8), 0))).1)), (.d (.bool (wordG (List.getD x0 (Int.toNat s7) (([] : List UInt8), (([] : List UInt8), 0))).1))), (.d (.bool (!(wordG (List.getD x0 (Int.toNat s7) (([] : List UInt8), (([] : List UInt8), 0))).1)))), (.d (.bool (!(wordG (List.getD x0 (Int.toNat s7) (([] : List UInt8), (([] : List UInt8), 0))).1)))), (.ptr 0 1), (.d (.str (List.getD x0 (Int.toNat s7) (([] : List UInt8), (([] : List UInt8), 0))).2.1)), (.d (.int .i64 (((List.length (List.getD x0 (Int.toNat s7) (([] : List UInt8), (([] : List UInt8), 0))).2.1) : Nat) : Int))), (.d (.bool (decide ((((List.length (List.getD x0 (Int.toNat s7) (([] : List UInt8), (([] : List UInt8), 0))).2.1) : Nat) : Int) > 24)))), (.d (.bool (decide ((((List.length (List.getD x0 (Int.toNat s7) (([] : List UInt8), (([] : List UInt8), 0))).2.1) : Nat) : Int) > 24)))), (.d (.bool (decide ((((List.length (List.getD x0 (Int.toNat s7) (([] : List UInt8), (([] : List UInt8), 0))).2.1) : Nat) : Int) > 24)))), (.ptr 0 2), (.d (.int .i64 (List.getD x0 (Int.toNat s7) (([] : List UInt8), (([] : List UInt8), 0))).2.2)), (.d (.str ([61] : List UInt8))), (.d (.bool (([61] : List UInt8) == ([] : List UInt8)))), (.d (.bool (([61] : List UInt8) == ([] : List UInt8)))), .top, .top, .top, .top], [(.cells [(.d (.str (List.getD x0 (Int.toNat s7) (([] : List UInt8), (([] : List UInt8), 0))).1)), (.d (.str (List.getD x0 (Int.toNat s7) (([] : List UInt8), (([] : List UInt8), 0))).2.1)), (.d (.int .i64 (List.getD x0 (Int.toNat s7) (([] : List UInt8), (([] : List UInt8), 0))).2.2))])])
  | 3 => (.ret, [(.d (.sl (.pair .str (.pair .str (.int .i64))) x0)), .top, (.d (.bool false)), .top, (.ptr 0 0), (.d (.sl (.pair .str (.pair .str (.int .i64))) x0)), (.d (.int .i64 s6)), (.d (.int .i64 s7)), (.d (.bool (decide (s7 < s6)))), (.cptr [(.str (List.getD x0 (Int.toNat s7) (([] : List UInt8), (([] : List UInt8), 0))).1), (.str (List.getD x0 (Int.toNat s7) (([] : List UInt8), (([] : List UInt8), 0))).2.1), (.int .i64 (List.getD x0 (Int.toNat s7) (([] : List UInt8), (([] : List UInt8), 0))).2.2)] 0), (.agg [(.d (.str (List.getD x0 (Int.toNat s7) (([] : List UInt8), (([] : List UInt8), 0))).1)), (.d (.str (List.getD x0 (Int.toNat s7) (([] : List UInt8), (([] : List UInt8), 0))).2.1)), (.d (.int .i64 (List.getD x0 (Int.toNat s7) (([] : List UInt8), (([] : List UInt8), 0))).2.2))]), (.ptr 0 0), (.d (.str (List.getD x0 (Int.toNat s7) (([] : List UInt8), (([] : List UInt8), 0))).1)), (.d (.bool (wordG (List.getD x0 (Int.toNat s7) (([] : List UInt8), (([] : List UInt8), 0))).1))), (.d (.bool (!(wordG (List.getD x0 (Int.toNat s7) (([] : List UInt8), (([] : List UInt8), 0))).1)))), (.d (.bool (!(wordG (List.getD x0 (Int.toNat s7) (([] : List UInt8), (([] : List UInt8), 0))).1)))), (.ptr 0 1), (.d (.str (List.getD x0 (Int.toNat s7) (([] : List UInt8), (([] : List UInt8), 0))).2.1)), (.d (.int .i64 (((List.length (List.getD x0 (Int.toNat s7) (([] : List UInt8), (([] : List UInt8), 0))).2.1) : Nat) : Int))), (.d (.bool (decide ((((List.length (List.getD x0 (Int.toNat s7) (([] : List UInt8), (([] : List UInt8), 0))).2.1) : Nat) : Int) > 24)))), (.d (.bool (decide ((((List.length (List.getD x0 (Int.toNat s7) (([] : List UInt8), (([] : List UInt8), 0))).2.1) : Nat) : Int) > 24)))), (.d (.bool (decide ((((List.length (List.getD x0 (Int.toNat s7) (([] : List UInt8), (([] : List UInt8), 0))).2.1) : Nat) : Int) > 24)))), (.ptr 0 2), (.d (.int .i64 (List.getD x0 (Int.toNat s7) (([] : List UInt8), (([] : List UInt8), 0))).2.2)), (.d (.str ([33, 61] : List UInt8))), (.d (.bool (([33, 61] : List UInt8) == ([] : List UInt8)))), (.d (.bool (([33, 61] : List UInt8) == ([] : List UInt8)))), .top, .top, .top, .top], [(.cells [(.d (.str (List.getD x0 (Int.toNat s7) (([] : List UInt8), (([] : List UInt8), 0))).1)), (.d (.str (List.getD x0 (Int.toNat s7) (([] : List UInt8), (([] : List UInt8), 0))).2.1)), (.d (.int .i64 (List.getD x0 (Int.toNat s7) (([] : List UInt8), (([] : List UInt8), 0))).2.2))])])
  | 4 => (.ret, [(.d (.sl (.pair .str (.pair .str (.int .i64))) x0)), .top, (.d (.bool false)), .top, (.ptr 0 0), (.d (.sl (.pair .str (.pair .str (.int .i64))) x0)), (.d (.int .i64 s6)), (.d (.int .i64 s7)), (.d (.bool (decide (s7 < s6)))), (.cptr [(.str (List.getD x0 (Int.toNat s7) (([] : List UInt8), (([] : List UInt8), 0))).1), (.str (List.getD x0 (Int.toNat s7) (([] : List UInt8), (([] : List UInt8), 0))).2.1), (.int .i64 (List.getD x0 (Int.toNat s7) (([] : List UInt8), (([] : List UInt8), 0))).2.2)] 0), (.agg [(.d (.str (List.getD x0 (Int.toNat s7) (([] : List UInt8), (([] : List UInt8), 0))).1)), (.d (.str (List.getD x0 (Int.toNat s7) (([] : List UInt8), (([] : List UInt8), 0))).2.1)), (.d (.int .i64 (List.getD x0 (Int.toNat s7) (([] : List UInt8), (([] : List UInt8), 0))).2.2))]), (.ptr 0 0), (.d (.str (List.getD x0 (Int.toNat s7) (([] : List UInt8), (([] : List UInt8), 0))).1)), (.d (.bool (wordG (List.getD x0 (Int.toNat s7) (([] : List UInt8), (([] : List UInt8), 0))).1))), (.d (.bool (!(wordG (List.getD x0 (Int.toNat s7) (([] : List UInt8), (([] : List UInt8), 0))).1)))), (.d (.bool (!(wordG (List.getD x0 (Int.toNat s7) (([] : List UInt8), (([] : List UInt8), 0))).1)))), (.ptr 0 1), (.d (.str (List.getD x0 (Int.toNat s7) (([] : List UInt8), (([] : List UInt8), 0))).2.1)), (.d (.int .i64 (((List.length (List.getD x0 (Int.toNat s7) (([] : List UInt8), (([] : List UInt8), 0))).2.1) : Nat) : Int))), (.d (.bool (decide ((((List.length (List.getD x0 (Int.toNat s7) (([] : List UInt8), (([] : List UInt8), 0))).2.1) : Nat) : Int) > 24)))), (.d (.bool (decide ((((List.length (List.getD x0 (Int.toNat s7) (([] : List UInt8), (([] : List UInt8), 0))).2.1) : Nat) : Int) > 24)))), (.d (.bool (decide ((((List.length (List.getD x0 (Int.toNat s7) (([] : List UInt8), (([] : List UInt8), 0))).2.1) : Nat) : Int) > 24)))), (.ptr 0 2), (.d (.int .i64 (List.getD x0 (Int.toNat s7) (([] : List UInt8), (([] : List UInt8), 0))).2.2)), (.d (.str ([94, 61] : List UInt8))), (.d (.bool (([94, 61] : List UInt8) == ([] : List UInt8)))), (.d (.bool (([94, 61] : List UInt8) == ([] : List UInt8)))), .top, .top, .top, .top], [(.cells [(.d (.str (List.getD x0 (Int.toNat s7) (([] : List UInt8), (([] : List UInt8), 0))).1)), (.d (.str (List.getD x0 (Int.toNat s7) (([] : List UInt8), (([] : List UInt8), 0))).2.1)), (.d (.int .i64 (List.getD x0 (Int.toNat s7) (([] : List UInt8), (([] : List UInt8), 0))).2.2))])])
  | 5 => (.ret, [(.d (.sl (.pair .str (.pair .str (.int .i64))) x0)), .top, (.d (.bool false)), .top, (.ptr 0 0), (.d (.sl (.pair .str (.pair .str (.int .i64))) x0)), (.d (.int .i64 s6)), (.d (.int .i64 s7)), (.d (.bool (decide (s7 < s6)))), (.cptr [(.str (List.getD x0 (Int.toNat s7) (([] : List UInt8), (([] : List UInt8), 0))).1), (.str (List.getD x0 (Int.toNat s7) (([] : List UInt8), (([] : List UInt8), 0))).2.1), (.int .i64 (List.getD x0 (Int.toNat s7) (([] : List UInt8), (([] : List UInt8), 0))).2.2)] 0), (.agg [(.d (.str (List.getD x0 (Int.toNat s7) (([] : List UInt8), (([] : List UInt8), 0))).1)), (.d (.str (List.getD x0 (Int.toNat s7) (([] : List UInt8), (([] : List UInt8), 0))).2.1)), (.d (.int .i64 (List.getD x0 (Int.toNat s7) (([] : List UInt8), (([] : List UInt8), 0))).2.2))]), (.ptr 0 0), (.d (.str (List.getD x0 (Int.toNat s7) (([] : List UInt8), (([] : List UInt8), 0))).1)), (.d (.bool (wordG (List.getD x0 (Int.toNat s7) (([] : List UInt8), (([] : List UInt8), 0))).1))), (.d (.bool (!(wordG (List.getD x0 (Int.toNat s7) (([] : List UInt8), (([] : List UInt8), 0))).1)))), (.d (.bool (!(wordG (List.getD x0 (Int.toNat s7) (([] : List UInt8), (([] : List UInt8), 0))).1)))), (.ptr 0 1), (.d (.str (List.getD x0 (Int.toNat s7) (([] : List UInt8), (([] : List UInt8), 0))).2.1)), (.d (.int .i64 (((List.length (List.getD x0 (Int.toNat s7) (([] : List UInt8), (([] : List UInt8), 0))).2.1) : Nat) : Int))), (.d (.bool (decide ((((List.length (List.getD x0 (Int.toNat s7) (([] : List UInt8), (([] : List UInt8), 0))).2.1) : Nat) : Int) > 24)))), (.d (.bool (decide ((((List.length (List.getD x0 (Int.toNat s7) (([] : List UInt8), (([] : List UInt8), 0))).2.1) : Nat) : Int) > 24)))), (.d (.bool (decide ((((List.length (List.getD x0 (Int.toNat s7) (([] : List UInt8), (([] : List UInt8), 0))).2.1) : Nat) : Int) > 24)))), (.ptr 0 2), (.d (.int .i64 (List.getD x0 (Int.toNat s7) (([] : List UInt8), (([] : List UInt8), 0))).2.2)), (.d (.str ([33, 94] : List UInt8))), (.d (.bool (([33, 94] : List UInt8) == ([] : List UInt8)))), (.d (.bool (([33, 94] : List UInt8) == ([] : List UInt8)))), .top, .top, .top, .top], [(.cells [(.d (.str (List.getD x0 (Int.toNat s7) (([] : List UInt8), (([] : List UInt8), 0))).1)), (.d (.str (List.getD x0 (Int.toNat s7) (([] : List UInt8), (([] : List UInt8), 0))).2.1)), (.d (.int .i64 (List.getD x0 (Int.toNat s7) (([] : List UInt8), (([] : List UInt8), 0))).2.2))])])
  | 6 => (.ret, [(.d (.sl (.pair .str (.pair .str (.int .i64))) x0)), .top, (.d (.bool false)), .top, (.ptr 0 0), (.d (.sl (.pair .str (.pair .str (.int .i64))) x0)), (.d (.int .i64 s6)), (.d (.int .i64 s7)), (.d (.bool (decide (s7 < s6)))), (.cptr [(.str (List.getD x0 (Int.toNat s7) (([] : List UInt8), (([] : List UInt8), 0))).1), (.str (List.getD x0 (Int.toNat s7) (([] : List UInt8), (([] : List UInt8), 0))).2.1), (.int .i64 (List.getD x0 (Int.toNat s7) (([] : List UInt8), (([] : List UInt8), 0))).2.2)] 0), (.agg [(.d (.str (List.getD x0 (Int.toNat s7) (([] : List UInt8), (([] : List UInt8), 0))).1)), (.d (.str (List.getD x0 (Int.toNat s7) (([] : List UInt8), (([] : List UInt8), 0))).2.1)), (.d (.int .i64 (List.getD x0 (Int.toNat s7) (([] : List UInt8), (([] : List UInt8), 0))).2.2))]), (.ptr 0 0), (.d (.str (List.getD x0 (Int.toNat s7) (([] : List UInt8), (([] : List UInt8), 0))).1)), (.d (.bool (wordG (List.getD x0 (Int.toNat s7) (([] : List UInt8), (([] : List UInt8), 0))).1))), (.d (.bool (!(wordG (List.getD x0 (Int.toNat s7) (([] : List UInt8), (([] : List UInt8), 0))).1)))), (.d (.bool (!(wordG (List.getD x0 (Int.toNat s7) (([] : List UInt8), (([] : List UInt8), 0))).1)))), (.ptr 0 1), (.d (.str (List.getD x0 (Int.toNat s7) (([] : List UInt8), (([] : List UInt8), 0))).2.1)), (.d (.int .i64 (((List.length (List.getD x0 (Int.toNat s7) (([] : List UInt8), (([] : List UInt8), 0))).2.1) : Nat) : Int))), (.d (.bool (decide ((((List.length (List.getD x0 (Int.toNat s7) (([] : List UInt8), (([] : List UInt8), 0))).2.1) : Nat) : Int) > 24)))), (.d (.bool (decide ((((List.length (List.getD x0 (Int.toNat s7) (([] : List UInt8), (([] : List UInt8), 0))).2.1) : Nat) : Int) > 24)))), (.d (.bool (decide ((((List.length (List.getD x0 (Int.toNat s7) (([] : List UInt8), (([] : List UInt8), 0))).2.1) : Nat) : Int) > 24)))), (.ptr 0 2), (.d (.int .i64 (List.getD x0 (Int.toNat s7) (([] : List UInt8), (([] : List UInt8), 0))).2.2)), (.d (.str ([] : List UInt8))), (.d (.bool (([] : List UInt8) == ([] : List UInt8)))), (.d (.bool (([] : List UInt8) == ([] : List UInt8)))), .top, .top, .top, .top], [(.cells [(.d (.str (List.getD x0 (Int.toNat s7) (([] : List UInt8), (([] : List UInt8), 0))).1)), (.d (.str (List.getD x0 (Int.toNat s7) (([] : List UInt8), (([] : List UInt8), 0))).2.1)), (.d (.int .i64 (List.getD x0 (Int.toNat s7) (([] : List UInt8), (([] : List UInt8), 0))).2.2))])])
  | _ => (.exit 0, [(.d (.sl (.pair .str (.pair .str (.int .i64))) x0)), .top, .top, .top, .top, (.d (.sl (.pair .str (.pair .str (.int .i64))) x0)), (.d (.int .i64 s6)), (.d (.int .i64 s7)), (.d (.bool (decide (s7 < s6)))), .top, .top, .top, .top, .top, .top, .top, .top, .top, .top, .top, .top, .top, .top, .top, .top, .top, .top, .top, .top, .top, .top], [])
noncomputable def lbl26_0 : AC := loopBody 225 body26

set_option maxHeartbeats 20000000 in
theorem l26_0_w0 (m n : Nat) (x0 : List ((List UInt8) × (List UInt8) × Int)) (s6 : Int) (s7 : Int) (c0 : decide (s7 < s6) = true) (c1 : decide (0 ≤ s7) = true) (c2 : decide (s7 < (((List.length x0) : Nat) : Int)) = true) (c3 : decide (List.length (List.getD x0 (Int.toNat s7) (([] : List UInt8), (([] : List UInt8), 0))).1 ≤ 9223372036854775807) = true) (c4 : (wordG (List.getD x0 (Int.toNat s7) (([] : List UInt8), (([] : List UInt8), 0))).1) = true) (c9 : decide ((((List.length (List.getD x0 (Int.toNat s7) (([] : List UInt8), (([] : List UInt8), 0))).2.1) : Nat) : Int) > 24) = true) : (turns (hds 26 225) 0 225 (evC byref (evCall F S11 (m + 24)) (m + 24) 0 (hds 26) lbl26_0) (n + 1) (l26_0H x0 s6 s7) (l26_0B x0 s6 s7)).run = some (let r1 := (wordG (List.getD x0 (Int.toNat s7) (([] : List UInt8), (([] : List UInt8), 0))).1); (.ret, [(.d (.sl (.pair .str (.pair .str (.int .i64))) x0)), .top, (.d (.bool false)), .top, (.ptr 0 0), (.d (.sl (.pair .str (.pair .str (.int .i64))) x0)), (.d (.int .i64 s6)), (.d (.int .i64 s7)), (.d (.bool (decide (s7 < s6)))), (.cptr [(.str (List.getD x0 (Int.toNat s7) (([] : List UInt8), (([] : List UInt8), 0))).1), (.str (List.getD x0 (Int.toNat s7) (([] : List UInt8), (([] : List UInt8), 0))).2.1), (.int .i64 (List.getD x0 (Int.toNat s7) (([] : List UInt8), (([] : List UInt8), 0))).2.2)] 0), (.agg [(.d (.str (List.getD x0 (Int.toNat s7) (([] : List UInt8), (([] : List UInt8), 0))).1)), (.d (.str (List.getD x0 (Int.toNat s7) (([] : List UInt8), (([] : List UInt8), 0))).2.1)), (.d (.int .i64 (List.getD x0 (Int.toNat s7) (([] : List UInt8), (([] : List UInt8), 0))).2.2))]), (.ptr 0 0), (.d (.str (List.getD x0 (Int.toNat s7) (([] : List UInt8), (([] : List UInt8), 0))).1)), (.d (.bool r1)), (.d (.bool (!r1))), (.d (.bool (!r1))), (.ptr 0 1), (.d (.str (List.getD x0 (Int.toNat s7) (([] : List UInt8), (([] : List UInt8), 0))).2.1)), (.d (.int .i64 (((List.length (List.getD x0 (Int.toNat s7) (([] : List UInt8), (([] : List UInt8), 0))).2.1) : Nat) : Int))), (.d (.bool (decide ((((List.length (List.getD x0 (Int.toNat s7) (([] : List UInt8), (([] : List UInt8), 0))).2.1) : Nat) : Int) > 24)))), (.d (.bool (decide ((((List.length (List.getD x0 (Int.toNat s7) (([] : List UInt8), (([] : List UInt8), 0))).2.1) : Nat) : Int) > 24)))), (.d (.bool (decide ((((List.length (List.getD x0 (Int.toNat s7) (([] : List UInt8), (([] : List UInt8), 0))).2.1) : Nat) : Int) > 24)))), (.tup []), (.tup []), (.tup []), (.tup []), (.d (.bool true)), .top, .top, .top, .top], [(.cells [(.d (.str (List.getD x0 (Int.toNat s7) (([] : List UInt8), (([] : List UInt8), 0))).1)), (.d (.str (List.getD x0 (Int.toNat s7) (([] : List UInt8), (([] : List UInt8), 0))).2.1)), (.d (.int .i64 (List.getD x0 (Int.toNat s7) (([] : List UInt8), (([] : List UInt8), 0))).2.2))])])) := by
  exact turns_last (by simp) (M.run_of_path _ [true, true, true, true, false, false, false, false, false, true, true, true, true, true, true] _ _ (by kernel_rfl) (all_t c0 (all_t c1 (all_t c2 (all_t c3 (all_nt c4 (all_nt c4 (all_nt c4 (all_nt c4 (all_nt c4 (all_t c9 (all_t c9 (all_t c9 (all_t c9 (all_t c9 (all_t rfl all_nil)))))))))))))))) 
set_option maxHeartbeats 20000000 in
theorem l26_0_w1 (m n : Nat) (x0 : List ((List UInt8) × (List UInt8) × Int)) (s6 : Int) (s7 : Int) (c0 : decide (s7 < s6) = true) (c1 : decide (0 ≤ s7) = true) (c2 : decide (s7 < (((List.length x0) : Nat) : Int)) = true) (c3 : decide (List.length (List.getD x0 (Int.toNat s7) (([] : List UInt8), (([] : List UInt8), 0))).1 ≤ 9223372036854775807) = true) (c4 : (wordG (List.getD x0 (Int.toNat s7) (([] : List UInt8), (([] : List UInt8), 0))).1) = true) (c9 : ¬ decide ((((List.length (List.getD x0 (Int.toNat s7) (([] : List UInt8), (([] : List UInt8), 0))).2.1) : Nat) : Int) > 24) = true) (c12 : ((List.getD x0 (Int.toNat s7) (([] : List UInt8), (([] : List UInt8), 0))).2.2 == (1)) = true) (c15 : (([61] : List UInt8) == ([] : List UInt8)) = true) : (turns (hds 26 225) 0 225 (evC byref (evCall F S11 (m + 24)) (m + 24) 0 (hds 26) lbl26_0) (n + 1) (l26_0H x0 s6 s7) (l26_0B x0 s6 s7)).run = some (let r1 := (wordG (List.getD x0 (Int.toNat s7) (([] : List UInt8), (([] : List UInt8), 0))).1); (.ret, [(.d (.sl (.pair .str (.pair .str (.int .i64))) x0)), .top, (.d (.bool false)), .top, (.ptr 0 0), (.d (.sl (.pair .str (.pair .str (.int .i64))) x0)), (.d (.int .i64 s6)), (.d (.int .i64 s7)), (.d (.bool (decide (s7 < s6)))), (.cptr [(.str (List.getD x0 (Int.toNat s7) (([] : List UInt8), (([] : List UInt8), 0))).1), (.str (List.getD x0 (Int.toNat s7) (([] : List UInt8), (([] : List UInt8), 0))).2.1), (.int .i64 (List.getD x0 (Int.toNat s7) (([] : List UInt8), (([] : List UInt8), 0))).2.2)] 0), (.agg [(.d (.str (List.getD x0 (Int.toNat s7) (([] : List UInt8), (([] : List UInt8), 0))).1)), (.d (.str (List.getD x0 (Int.toNat s7) (([] : List UInt8), (([] : List UInt8), 0))).2.1)), (.d (.int .i64 (List.getD x0 (Int.toNat s7) (([] : List UInt8), (([] : List UInt8), 0))).2.2))]), (.ptr 0 0), (.d (.str (List.getD x0 (Int.toNat s7) (([] : List UInt8), (([] : List UInt8), 0))).1)), (.d (.bool r1)), (.d (.bool (!r1))), (.d (.bool (!r1))), (.ptr 0 1), (.d (.str (List.getD x0 (Int.toNat s7) (([] : List UInt8), (([] : List UInt8), 0))).2.1)), (.d (.int .i64 (((List.length (List.getD x0 (Int.toNat s7) (([] : List UInt8), (([] : List UInt8), 0))).2.1) : Nat) : Int))), (.d (.bool (decide ((((List.length (List.getD x0 (Int.toNat s7) (([] : List UInt8), (([] : List UInt8), 0))).2.1) : Nat) : Int) > 24)))), (.d (.bool (decide ((((List.length (List.getD x0 (Int.toNat s7) (([] : List UInt8), (([] : List UInt8), 0))).2.1) : Nat) : Int) > 24)))), (.d (.bool (decide ((((List.length (List.getD x0 (Int.toNat s7) (([] : List UInt8), (([] : List UInt8), 0))).2.1) : Nat) : Int) > 24)))), (.ptr 0 2), (.d (.int .i64 (List.getD x0 (Int.toNat s7) (([] : List UInt8), (([] : List UInt8), 0))).2.2)), (.d (.str ([61] : List UInt8))), (.d (.bool (([61] : List UInt8) == ([] : List UInt8)))), (.d (.bool (([61] : List UInt8) == ([] : List UInt8)))), .top, .top, .top, .top], [(.cells [(.d (.str (List.getD x0 (Int.toNat s7) (([] : List UInt8), (([] : List UInt8), 0))).1)), (.d (.str (List.getD x0 (Int.toNat s7) (([] : List UInt8), (([] : List UInt8), 0))).2.1)), (.d (.int .i64 (List.getD x0 (Int.toNat s7) (([] : List UInt8), (([] : List UInt8), 0))).2.2))])])) := by
  exact turns_last (by simp) (M.run_of_path _ [true, true, true, true, false, false, false, false, false, false, false, false, true, false, false, true] _ _ (by kernel_rfl) (all_t c0 (all_t c1 (all_t c2 (all_t c3 (all_nt c4 (all_nt c4 (all_nt c4 (all_nt c4 (all_nt c4 (all_f c9 (all_f c9 (all_f c9 (all_t c12 (all_f c9 (all_f c9 (all_t c15 all_nil))))))))))))))))) 
set_option maxHeartbeats 20000000 in
theorem l26_0_w2 (m n : Nat) (x0 : List ((List UInt8) × (List UInt8) × Int)) (s6 : Int) (s7 : Int) (r : AEx × Env × Boxes) (c0 : decide (s7 < s6) = true) (c1 : decide (0 ≤ s7) = true) (c2 : decide (s7 < (((List.length x0) : Nat) : Int)) = true) (c3 : decide (List.length (List.getD x0 (Int.toNat s7) (([] : List UInt8), (([] : List UInt8), 0))).1 ≤ 9223372036854775807) = true) (c4 : (wordG (List.getD x0 (Int.toNat s7) (([] : List UInt8), (([] : List UInt8), 0))).1) = true) (c9 : ¬ decide ((((List.length (List.getD x0 (Int.toNat s7) (([] : List UInt8), (([] : List UInt8), 0))).2.1) : Nat) : Int) > 24) = true) (c12 : ((List.getD x0 (Int.toNat s7) (([] : List UInt8), (([] : List UInt8), 0))).2.2 == (1)) = true) (c15 : ¬ (([61] : List UInt8) == ([] : List UInt8)) = true) (ih : (turns (hds 26 225) 0 225 (evC byref (evCall F S11 (m + 24)) (m + 24) 0 (hds 26) lbl26_0) n (l26_0H x0 s6 ((IntKind.wrap .i64 (s7 + (1))))) (l26_0B x0 s6 ((IntKind.wrap .i64 (s7 + (1)))))).run = some r) : (turns (hds 26 225) 0 225 (evC byref (evCall F S11 (m + 24)) (m + 24) 0 (hds 26) lbl26_0) (n + 1) (l26_0H x0 s6 s7) (l26_0B x0 s6 s7)).run = some r := by
  exact turns_step (M.run_of_path _ [true, true, true, true, false, false, false, false, false, false, false, false, true, false, false, false] _ _ (by kernel_rfl) (all_t c0 (all_t c1 (all_t c2 (all_t c3 (all_nt c4 (all_nt c4 (all_nt c4 (all_nt c4 (all_nt c4 (all_f c9 (all_f c9 (all_f c9 (all_t c12 (all_f c9 (all_f c9 (all_f c15 all_nil))))))))))))))))) ih
set_option maxHeartbeats 20000000 in
theorem l26_0_w3 (m n : Nat) (x0 : List ((List UInt8) × (List UInt8) × Int)) (s6 : Int) (s7 : Int) (c0 : decide (s7 < s6) = true) (c1 : decide (0 ≤ s7) = true) (c2 : decide (s7 < (((List.length x0) : Nat) : Int)) = true) (c3 : decide (List.length (List.getD x0 (Int.toNat s7) (([] : List UInt8), (([] : List UInt8), 0))).1 ≤ 9223372036854775807) = true) (c4 : (wordG (List.getD x0 (Int.toNat s7) (([] : List UInt8), (([] : List UInt8), 0))).1) = true) (c9 : ¬ decide ((((List.length (List.getD x0 (Int.toNat s7) (([] : List UInt8), (([] : List UInt8), 0))).2.1) : Nat) : Int) > 24) = true) (c12 : ¬ ((List.getD x0 (Int.toNat s7) (([] : List UInt8), (([] : List UInt8), 0))).2.2 == (1)) = true) (c13 : ((List.getD x0 (Int.toNat s7) (([] : List UInt8), (([] : List UInt8), 0))).2.2 == (2)) = true) (c16 : (([33, 61] : List UInt8) == ([] : List UInt8)) = true) : (turns (hds 26 225) 0 225 (evC byref (evCall F S11 (m + 24)) (m + 24) 0 (hds 26) lbl26_0) (n + 1) (l26_0H x0 s6 s7) (l26_0B x0 s6 s7)).run = some (let r1 := (wordG (List.getD x0 (Int.toNat s7) (([] : List UInt8), (([] : List UInt8), 0))).1); (.ret, [(.d (.sl (.pair .str (.pair .str (.int .i64))) x0)), .top, (.d (.bool false)), .top, (.ptr 0 0), (.d (.sl (.pair .str (.pair .str (.int .i64))) x0)), (.d (.int .i64 s6)), (.d (.int .i64 s7)), (.d (.bool (decide (s7 < s6)))), (.cptr [(.str (List.getD x0 (Int.toNat s7) (([] : List UInt8), (([] : List UInt8), 0))).1), (.str (List.getD x0 (Int.toNat s7) (([] : List UInt8), (([] : List UInt8), 0))).2.1), (.int .i64 (List.getD x0 (Int.toNat s7) (([] : List UInt8), (([] : List UInt8), 0))).2.2)] 0), (.agg [(.d (.str (List.getD x0 (Int.toNat s7) (([] : List UInt8), (([] : List UInt8), 0))).1)), (.d (.str (List.getD x0 (Int.toNat s7) (([] : List UInt8), (([] : List UInt8), 0))).2.1)), (.d (.int .i64 (List.getD x0 (Int.toNat s7) (([] : List UInt8), (([] : List UInt8), 0))).2.2))]), (.ptr 0 0), (.d (.str (List.getD x0 (Int.toNat s7) (([] : List UInt8), (([] : List UInt8), 0))).1)), (.d (.bool r1)), (.d (.bool (!r1))), (.d (.bool (!r1))), (.ptr 0 1), (.d (.str (List.getD x0 (Int.toNat s7) (([] : List UInt8), (([] : List UInt8), 0))).2.1)), (.d (.int .i64 (((List.length (List.getD x0 (Int.toNat s7) (([] : List UInt8), (([] : List UInt8), 0))).2.1) : Nat) : Int))), (.d (.bool (decide ((((List.length (List.getD x0 (Int.toNat s7) (([] : List UInt8), (([] : List UInt8), 0))).2.1) : Nat) : Int) > 24)))), (.d (.bool (decide ((((List.length (List.getD x0 (Int.toNat s7) (([] : List UInt8), (([] : List UInt8), 0))).2.1) : Nat) : Int) > 24)))), (.d (.bool (decide ((((List.length (List.getD x0 (Int.toNat s7) (([] : List UInt8), (([] : List UInt8), 0))).2.1) : Nat) : Int) > 24)))), (.ptr 0 2), (.d (.int .i64 (List.getD x0 (Int.toNat s7) (([] : List UInt8), (([] : List UInt8), 0))).2.2)), (.d (.str ([33, 61] : List UInt8))), (.d (.bool (([33, 61] : List UInt8) == ([] : List UInt8)))), (.d (.bool (([33, 61] : List UInt8) == ([] : List UInt8)))), .top, .top, .top, .top], [(.cells [(.d (.str (List.getD x0 (Int.toNat s7) (([] : List UInt8), (([] : List UInt8), 0))).1)), (.d (.str (List.getD x0 (Int.toNat s7) (([] : List UInt8), (([] : List UInt8), 0))).2.1)), (.d (.int .i64 (List.getD x0 (Int.toNat s7) (([] : List UInt8), (([] : List UInt8), 0))).2.2))])])) := by
  exact turns_last (by simp) (M.run_of_path _ [true, true, true, true, false, false, false, false, false, false, false, false, false, true, false, false, true] _ _ (by kernel_rfl) (all_t c0 (all_t c1 (all_t c2 (all_t c3 (all_nt c4 (all_nt c4 (all_nt c4 (all_nt c4 (all_nt c4 (all_f c9 (all_f c9 (all_f c9 (all_f c12 (all_t c13 (all_f c9 (all_f c9 (all_t c16 all_nil)))))))))))))))))) 
set_option maxHeartbeats 20000000 in
theorem l26_0_w4 (m n : Nat) (x0 : List ((List UInt8) × (List UInt8) × Int)) (s6 : Int) (s7 : Int) (r : AEx × Env × Boxes) (c0 : decide (s7 < s6) = true) (c1 : decide (0 ≤ s7) = true) (c2 : decide (s7 < (((List.length x0) : Nat) : Int)) = true) (c3 : decide (List.length (List.getD x0 (Int.toNat s7) (([] : List UInt8), (([] : List UInt8), 0))).1 ≤ 9223372036854775807) = true) (c4 : (wordG (List.getD x0 (Int.toNat s7) (([] : List UInt8), (([] : List UInt8), 0))).1) = true) (c9 : ¬ decide ((((List.length (List.getD x0 (Int.toNat s7) (([] : List UInt8), (([] : List UInt8), 0))).2.1) : Nat) : Int) > 24) = true) (c12 : ¬ ((List.getD x0 (Int.toNat s7) (([] : List UInt8), (([] : List UInt8), 0))).2.2 == (1)) = true) (c13 : ((List.getD x0 (Int.toNat s7) (([] : List UInt8), (([] : List UInt8), 0))).2.2 == (2)) = true) (c16 : ¬ (([33, 61] : List UInt8) == ([] : List UInt8)) = true) (ih : (turns (hds 26 225) 0 225 (evC byref (evCall F S11 (m + 24)) (m + 24) 0 (hds 26) lbl26_0) n (l26_0H x0 s6 ((IntKind.wrap .i64 (s7 + (1))))) (l26_0B x0 s6 ((IntKind.wrap .i64 (s7 + (1)))))).run = some r) : (turns (hds 26 225) 0 225 (evC byref (evCall F S11 (m + 24)) (m + 24) 0 (hds 26) lbl26_0) (n + 1) (l26_0H x0 s6 s7) (l26_0B x0 s6 s7)).run = some r := by
  exact turns_step (M.run_of_path _ [true, true, true, true, false, false, false, false, false, false, false, false, false, true, false, false, false] _ _ (by kernel_rfl) (all_t c0 (all_t c1 (all_t c2 (all_t c3 (all_nt c4 (all_nt c4 (all_nt c4 (all_nt c4 (all_nt c4 (all_f c9 (all_f c9 (all_f c9 (all_f c12 (all_t c13 (all_f c9 (all_f c9 (all_f c16 all_nil)))))))))))))))))) ih
set_option maxHeartbeats 20000000 in
theorem l26_0_w5 (m n : Nat) (x0 : List ((List UInt8) × (List UInt8) × Int)) (s6 : Int) (s7 : Int) (c0 : decide (s7 < s6) = true) (c1 : decide (0 ≤ s7) = true) (c2 : decide (s7 < (((List.length x0) : Nat) : Int)) = true) (c3 : decide (List.length (List.getD x0 (Int.toNat s7) (([] : List UInt8), (([] : List UInt8), 0))).1 ≤ 9223372036854775807) = true) (c4 : (wordG (List.getD x0 (Int.toNat s7) (([] : List UInt8), (([] : List UInt8), 0))).1) = true) (c9 : ¬ decide ((((List.length (List.getD x0 (Int.toNat s7) (([] : List UInt8), (([] : List UInt8), 0))).2.1) : Nat) : Int) > 24) = true) (c12 : ¬ ((List.getD x0 (Int.toNat s7) (([] : List UInt8), (([] : List UInt8), 0))).2.2 == (1)) = true) (c13 : ¬ ((List.getD x0 (Int.toNat s7) (([] : List UInt8), (([] : List UInt8), 0))).2.2 == (2)) = true) (c14 : ((List.getD x0 (Int.toNat s7) (([] : List UInt8), (([] : List UInt8), 0))).2.2 == (3)) = true) (c17 : (([94, 61] : List UInt8) == ([] : List UInt8)) = true) : (turns (hds 26 225) 0 225 (evC byref (evCall F S11 (m + 24)) (m + 24) 0 (hds 26) lbl26_0) (n + 1) (l26_0H x0 s6 s7) (l26_0B x0 s6 s7)).run = some (let r1 := (wordG (List.getD x0 (Int.toNat s7) (([] : List UInt8), (([] : List UInt8), 0))).1); (.ret, [(.d (.sl (.pair .str (.pair .str (.int .i64))) x0)), .top, (.d (.bool false)), .top, (.ptr 0 0), (.d (.sl (.pair .str (.pair .str (.int .i64))) x0)), (.d (.int .i64 s6)), (.d (.int .i64 s7)), (.d (.bool (decide (s7 < s6)))), (.cptr [(.str (List.getD x0 (Int.toNat s7) (([] : List UInt8), (([] : List UInt8), 0))).1), (.str (List.getD x0 (Int.toNat s7) (([] : List UInt8), (([] : List UInt8), 0))).2.1), (.int .i64 (List.getD x0 (Int.toNat s7) (([] : List UInt8), (([] : List UInt8), 0))).2.2)] 0), (.agg [(.d (.str (List.getD x0 (Int.toNat s7) (([] : List UInt8), (([] : List UInt8), 0))).1)), (.d (.str (List.getD x0 (Int.toNat s7) (([] : List UInt8), (([] : List UInt8), 0))).2.1)), (.d (.int .i64 (List.getD x0 (Int.toNat s7) (([] : List UInt8), (([] : List UInt8), 0))).2.2))]), (.ptr 0 0), (.d (.str (List.getD x0 (Int.toNat s7) (([] : List UInt8), (([] : List UInt8), 0))).1)), (.d (.bool r1)), (.d (.bool (!r1))), (.d (.bool (!r1))), (.ptr 0 1), (.d (.str (List.getD x0 (Int.toNat s7) (([] : List UInt8), (([] : List UInt8), 0))).2.1)), (.d (.int .i64 (((List.length (List.getD x0 (Int.toNat s7) (([] : List UInt8), (([] : List UInt8), 0))).2.1) : Nat) : Int))), (.d (.bool (decide ((((List.length (List.getD x0 (Int.toNat s7) (([] : List UInt8), (([] : List UInt8), 0))).2.1) : Nat) : Int) > 24)))), (.d (.bool (decide ((((List.length (List.getD x0 (Int.toNat s7) (([] : List UInt8), (([] : List UInt8), 0))).2.1) : Nat) : Int) > 24)))), (.d (.bool (decide ((((List.length (List.getD x0 (Int.toNat s7) (([] : List UInt8), (([] : List UInt8), 0))).2.1) : Nat) : Int) > 24)))), (.ptr 0 2), (.d (.int .i64 (List.getD x0 (Int.toNat s7) (([] : List UInt8), (([] : List UInt8), 0))).2.2)), (.d (.str ([94, 61] : List UInt8))), (.d (.bool (([94, 61] : List UInt8) == ([] : List UInt8)))), (.d (.bool (([94, 61] : List UInt8) == ([] : List UInt8)))), .top, .top, .top, .top], [(.cells [(.d (.str (List.getD x0 (Int.toNat s7) (([] : List UInt8), (([] : List UInt8), 0))).1)), (.d (.str (List.getD x0 (Int.toNat s7) (([] : List UInt8), (([] : List UInt8), 0))).2.1)), (.d (.int .i64 (List.getD x0 (Int.toNat s7) (([] : List UInt8), (([] : List UInt8), 0))).2.2))])])) := by
  exact turns_last (by simp) (M.run_of_path _ [true, true, true, true, false, false, false, false, false, false, false, false, false, false, true, false, false, true] _ _ (by kernel_rfl) (all_t c0 (all_t c1 (all_t c2 (all_t c3 (all_nt c4 (all_nt c4 (all_nt c4 (all_nt c4 (all_nt c4 (all_f c9 (all_f c9 (all_f c9 (all_f c12 (all_f c13 (all_t c14 (all_f c9 (all_f c9 (all_t c17 all_nil))))))))))))))))))) 
set_option maxHeartbeats 20000000 in
theorem l26_0_w6 (m n : Nat) (x0 : List ((List UInt8) × (List UInt8) × Int)) (s6 : Int) (s7 : Int) (r : AEx × Env × Boxes) (c0 : decide (s7 < s6) = true) (c1 : decide (0 ≤ s7) = true) (c2 : decide (s7 < (((List.length x0) : Nat) : Int)) = true) (c3 : decide (List.length (List.getD x0 (Int.toNat s7) (([] : List UInt8), (([] : List UInt8), 0))).1 ≤ 9223372036854775807) = true) (c4 : (wordG (List.getD x0 (Int.toNat s7) (([] : List UInt8), (([] : List UInt8), 0))).1) = true) (c9 : ¬ decide ((((List.length (List.getD x0 (Int.toNat s7) (([] : List UInt8), (([] : List UInt8), 0))).2.1) : Nat) : Int) > 24) = true) (c12 : ¬ ((List.getD x0 (Int.toNat s7) (([] : List UInt8), (([] : List UInt8), 0))).2.2 == (1)) = true) (c13 : ¬ ((List.getD x0 (Int.toNat s7) (([] : List UInt8), (([] : List UInt8), 0))).2.2 == (2)) = true) (c14 : ((List.getD x0 (Int.toNat s7) (([] : List UInt8), (([] : List UInt8), 0))).2.2 == (3)) = true) (c17 : ¬ (([94, 61] : List UInt8) == ([] : List UInt8)) = true) (ih : (turns (hds 26 225) 0 225 (evC byref (evCall F S11 (m + 24)) (m + 24) 0 (hds 26) lbl26_0) n (l26_0H x0 s6 ((IntKind.wrap .i64 (s7 + (1))))) (l26_0B x0 s6 ((IntKind.wrap .i64 (s7 + (1)))))).run = some r) : (turns (hds 26 225) 0 225 (evC byref (evCall F S11 (m + 24)) (m + 24) 0 (hds 26) lbl26_0) (n + 1) (l26_0H x0 s6 s7) (l26_0B x0 s6 s7)).run = some r := by
  exact turns_step (M.run_of_path _ [true, true, true, true, false, false, false, false, false, false, false, false, false, false, true, false, false, false] _ _ (by kernel_rfl) (all_t c0 (all_t c1 (all_t c2 (all_t c3 (all_nt c4 (all_nt c4 (all_nt c4 (all_nt c4 (all_nt c4 (all_f c9 (all_f c9 (all_f c9 (all_f c12 (all_f c13 (all_t c14 (all_f c9 (all_f c9 (all_f c17 all_nil))))))))))))))))))) ih
set_option maxHeartbeats 20000000 in
theorem l26_0_w7 (m n : Nat) (x0 : List ((List UInt8) × (List UInt8) × Int)) (s6 : Int) (s7 : Int) (c0 : decide (s7 < s6) = true) (c1 : decide (0 ≤ s7) = true) (c2 : decide (s7 < (((List.length x0) : Nat) : Int)) = true) (c3 : decide (List.length (List.getD x0 (Int.toNat s7) (([] : List UInt8), (([] : List UInt8), 0))).1 ≤ 9223372036854775807) = true) (c4 : (wordG (List.getD x0 (Int.toNat s7) (([] : List UInt8), (([] : List UInt8), 0))).1) = true) (c9 : ¬ decide ((((List.length (List.getD x0 (Int.toNat s7) (([] : List UInt8), (([] : List UInt8), 0))).2.1) : Nat) : Int) > 24) = true) (c12 : ¬ ((List.getD x0 (Int.toNat s7) (([] : List UInt8), (([] : List UInt8), 0))).2.2 == (1)) = true) (c13 : ¬ ((List.getD x0 (Int.toNat s7) (([] : List UInt8), (([] : List UInt8), 0))).2.2 == (2)) = true) (c14 : ¬ ((List.getD x0 (Int.toNat s7) (([] : List UInt8), (([] : List UInt8), 0))).2.2 == (3)) = true) (c15 : ((List.getD x0 (Int.toNat s7) (([] : List UInt8), (([] : List UInt8), 0))).2.2 == (4)) = true) (c18 : (([33, 94] : List UInt8) == ([] : List UInt8)) = true) : (turns (hds 26 225) 0 225 (evC byref (evCall F S11 (m + 24)) (m + 24) 0 (hds 26) lbl26_0) (n + 1) (l26_0H x0 s6 s7) (l26_0B x0 s6 s7)).run = some (let r1 := (wordG (List.getD x0 (Int.toNat s7) (([] : List UInt8), (([] : List UInt8), 0))).1); (.ret, [(.d (.sl (.pair .str (.pair .str (.int .i64))) x0)), .top, (.d (.bool false)), .top, (.ptr 0 0), (.d (.sl (.pair .str (.pair .str (.int .i64))) x0)), (.d (.int .i64 s6)), (.d (.int .i64 s7)), (.d (.bool (decide (s7 < s6)))), (.cptr [(.str (List.getD x0 (Int.toNat s7) (([] : List UInt8), (([] : List UInt8), 0))).1), (.str (List.getD x0 (Int.toNat s7) (([] : List UInt8), (([] : List UInt8), 0))).2.1), (.int .i64 (List.getD x0 (Int.toNat s7) (([] : List UInt8), (([] : List UInt8), 0))).2.2)] 0), (.agg [(.d (.str (List.getD x0 (Int.toNat s7) (([] : List UInt8), (([] : List UInt8), 0))).1)), (.d (.str (List.getD x0 (Int.toNat s7) (([] : List UInt8), (([] : List UInt8), 0))).2.1)), (.d (.int .i64 (List.getD x0 (Int.toNat s7) (([] : List UInt8), (([] : List UInt8), 0))).2.2))]), (.ptr 0 0), (.d (.str (List.getD x0 (Int.toNat s7) (([] : List UInt8), (([] : List UInt8), 0))).1)), (.d (.bool r1)), (.d (.bool (!r1))), (.d (.bool (!r1))), (.ptr 0 1), (.d (.str (List.getD x0 (Int.toNat s7) (([] : List UInt8), (([] : List UInt8), 0))).2.1)), (.d (.int .i64 (((List.length (List.getD x0 (Int.toNat s7) (([] : List UInt8), (([] : List UInt8), 0))).2.1) : Nat) : Int))), (.d (.bool (decide ((((List.length (List.getD x0 (Int.toNat s7) (([] : List UInt8), (([] : List UInt8), 0))).2.1) : Nat) : Int) > 24)))), (.d (.bool (decide ((((List.length (List.getD x0 (Int.toNat s7) (([] : List UInt8), (([] : List UInt8), 0))).2.1) : Nat) : Int) > 24)))), (.d (.bool (decide ((((List.length (List.getD x0 (Int.toNat s7) (([] : List UInt8), (([] : List UInt8), 0))).2.1) : Nat) : Int) > 24)))), (.ptr 0 2), (.d (.int .i64 (List.getD x0 (Int.toNat s7) (([] : List UInt8), (([] : List UInt8), 0))).2.2)), (.d (.str ([33, 94] : List UInt8))), (.d (.bool (([33, 94] : List UInt8) == ([] : List UInt8)))), (.d (.bool (([33, 94] : List UInt8) == ([] : List UInt8)))), .top, .top, .top, .top], [(.cells [(.d (.str (List.getD x0 (Int.toNat s7) (([] : List UInt8), (([] : List UInt8), 0))).1)), (.d (.str (List.getD x0 (Int.toNat s7) (([] : List UInt8), (([] : List UInt8), 0))).2.1)), (.d (.int .i64 (List.getD x0 (Int.toNat s7) (([] : List UInt8), (([] : List UInt8), 0))).2.2))])])) := by
  exact turns_last (by simp) (M.run_of_path _ [true, true, true, true, false, false, false, false, false, false, false, false, false, false, false, true, false, false, true] _ _ (by kernel_rfl) (all_t c0 (all_t c1 (all_t c2 (all_t c3 (all_nt c4 (all_nt c4 (all_nt c4 (all_nt c4 (all_nt c4 (all_f c9 (all_f c9 (all_f c9 (all_f c12 (all_f c13 (all_f c14 (all_t c15 (all_f c9 (all_f c9 (all_t c18 all_nil)))))))))))))))))))) 
set_option maxHeartbeats 20000000 in
theorem l26_0_w8 (m n : Nat) (x0 : List ((List UInt8) × (List UInt8) × Int)) (s6 : Int) (s7 : Int) (r : AEx × Env × Boxes) (c0 : decide (s7 < s6) = true) (c1 : decide (0 ≤ s7) = true) (c2 : decide (s7 < (((List.length x0) : Nat) : Int)) = true) (c3 : decide (List.length (List.getD x0 (Int.toNat s7) (([] : List UInt8), (([] : List UInt8), 0))).1 ≤ 9223372036854775807) = true) (c4 : (wordG (List.getD x0 (Int.toNat s7) (([] : List UInt8), (([] : List UInt8), 0))).1) = true) (c9 : ¬ decide ((((List.length (List.getD x0 (Int.toNat s7) (([] : List UInt8), (([] : List UInt8), 0))).2.1) : Nat) : Int) > 24) = true) (c12 : ¬ ((List.getD x0 (Int.toNat s7) (([] : List UInt8), (([] : List UInt8), 0))).2.2 == (1)) = true) (c13 : ¬ ((List.getD x0 (Int.toNat s7) (([] : List UInt8), (([] : List UInt8), 0))).2.2 == (2)) = true) (c14 : ¬ ((List.getD x0 (Int.toNat s7) (([] : List UInt8), (([] : List UInt8), 0))).2.2 == (3)) = true) (c15 : ((List.getD x0 (Int.toNat s7) (([] : List UInt8), (([] : List UInt8), 0))).2.2 == (4)) = true) (c18 : ¬ (([33, 94] : List UInt8) == ([] : List UInt8)) = true) (ih : (turns (hds 26 225) 0 225 (evC byref (evCall F S11 (m + 24)) (m + 24) 0 (hds 26) lbl26_0) n (l26_0H x0 s6 ((IntKind.wrap .i64 (s7 + (1))))) (l26_0B x0 s6 ((IntKind.wrap .i64 (s7 + (1)))))).run = some r) : (turns (hds 26 225) 0 225 (evC byref (evCall F S11 (m + 24)) (m + 24) 0 (hds 26) lbl26_0) (n + 1) (l26_0H x0 s6 s7) (l26_0B x0 s6 s7)).run = some r := by
  exact turns_step (M.run_of_path _ [true, true, true, true, false, false, false, false, false, false, false, false, false, false, false, true, false, false, false] _ _ (by kernel_rfl) (all_t c0 (all_t c1 (all_t c2 (all_t c3 (all_nt c4 (all_nt c4 (all_nt c4 (all_nt c4 (all_nt c4 (all_f c9 (all_f c9 (all_f c9 (all_f c12 (all_f c13 (all_f c14 (all_t c15 (all_f c9 (all_f c9 (all_f c18 all_nil)))))))))))))))))))) ih
set_option maxHeartbeats 20000000 in
theorem l26_0_w9 (m n : Nat) (x0 : List ((List UInt8) × (List UInt8) × Int)) (s6 : Int) (s7 : Int) (c0 : decide (s7 < s6) = true) (c1 : decide (0 ≤ s7) = true) (c2 : decide (s7 < (((List.length x0) : Nat) : Int)) = true) (c3 : decide (List.length (List.getD x0 (Int.toNat s7) (([] : List UInt8), (([] : List UInt8), 0))).1 ≤ 9223372036854775807) = true) (c4 : (wordG (List.getD x0 (Int.toNat s7) (([] : List UInt8), (([] : List UInt8), 0))).1) = true) (c9 : ¬ decide ((((List.length (List.getD x0 (Int.toNat s7) (([] : List UInt8), (([] : List UInt8), 0))).2.1) : Nat) : Int) > 24) = true) (c12 : ¬ ((List.getD x0 (Int.toNat s7) (([] : List UInt8), (([] : List UInt8), 0))).2.2 == (1)) = true) (c13 : ¬ ((List.getD x0 (Int.toNat s7) (([] : List UInt8), (([] : List UInt8), 0))).2.2 == (2)) = true) (c14 : ¬ ((List.getD x0 (Int.toNat s7) (([] : List UInt8), (([] : List UInt8), 0))).2.2 == (3)) = true) (c15 : ¬ ((List.getD x0 (Int.toNat s7) (([] : List UInt8), (([] : List UInt8), 0))).2.2 == (4)) = true) (c18 : (([] : List UInt8) == ([] : List UInt8)) = true) : (turns (hds 26 225) 0 225 (evC byref (evCall F S11 (m + 24)) (m + 24) 0 (hds 26) lbl26_0) (n + 1) (l26_0H x0 s6 s7) (l26_0B x0 s6 s7)).run = some (let r1 := (wordG (List.getD x0 (Int.toNat s7) (([] : List UInt8), (([] : List UInt8), 0))).1); (.ret, [(.d (.sl (.pair .str (.pair .str (.int .i64))) x0)), .top, (.d (.bool false)), .top, (.ptr 0 0), (.d (.sl (.pair .str (.pair .str (.int .i64))) x0)), (.d (.int .i64 s6)), (.d (.int .i64 s7)), (.d (.bool (decide (s7 < s6)))), (.cptr [(.str (List.getD x0 (Int.toNat s7) (([] : List UInt8), (([] : List UInt8), 0))).1), (.str (List.getD x0 (Int.toNat s7) (([] : List UInt8), (([] : List UInt8), 0))).2.1), (.int .i64 (List.getD x0 (Int.toNat s7) (([] : List UInt8), (([] : List UInt8), 0))).2.2)] 0), (.agg [(.d (.str (List.getD x0 (Int.toNat s7) (([] : List UInt8), (([] : List UInt8), 0))).1)), (.d (.str (List.getD x0 (Int.toNat s7) (([] : List UInt8), (([] : List UInt8), 0))).2.1)), (.d (.int .i64 (List.getD x0 (Int.toNat s7) (([] : List UInt8), (([] : List UInt8), 0))).2.2))]), (.ptr 0 0), (.d (.str (List.getD x0 (Int.toNat s7) (([] : List UInt8), (([] : List UInt8), 0))).1)), (.d (.bool r1)), (.d (.bool (!r1))), (.d (.bool (!r1))), (.ptr 0 1), (.d (.str (List.getD x0 (Int.toNat s7) (([] : List UInt8), (([] : List UInt8), 0))).2.1)), (.d (.int .i64 (((List.length (List.getD x0 (Int.toNat s7) (([] : List UInt8), (([] : List UInt8), 0))).2.1) : Nat) : Int))), (.d (.bool (decide ((((List.length (List.getD x0 (Int.toNat s7) (([] : List UInt8), (([] : List UInt8), 0))).2.1) : Nat) : Int) > 24)))), (.d (.bool (decide ((((List.length (List.getD x0 (Int.toNat s7) (([] : List UInt8), (([] : List UInt8), 0))).2.1) : Nat) : Int) > 24)))), (.d (.bool (decide ((((List.length (List.getD x0 (Int.toNat s7) (([] : List UInt8), (([] : List UInt8), 0))).2.1) : Nat) : Int) > 24)))), (.ptr 0 2), (.d (.int .i64 (List.getD x0 (Int.toNat s7) (([] : List UInt8), (([] : List UInt8), 0))).2.2)), (.d (.str ([] : List UInt8))), (.d (.bool (([] : List UInt8) == ([] : List UInt8)))), (.d (.bool (([] : List UInt8) == ([] : List UInt8)))), .top, .top, .top, .top], [(.cells [(.d (.str (List.getD x0 (Int.toNat s7) (([] : List UInt8), (([] : List UInt8), 0))).1)), (.d (.str (List.getD x0 (Int.toNat s7) (([] : List UInt8), (([] : List UInt8), 0))).2.1)), (.d (.int .i64 (List.getD x0 (Int.toNat s7) (([] : List UInt8), (([] : List UInt8), 0))).2.2))])])) := by
  exact turns_last (by simp) (M.run_of_path _ [true, true, true, true, false, false, false, false, false, false, false, false, false, false, false, false, false, false, true] _ _ (by kernel_rfl) (all_t c0 (all_t c1 (all_t c2 (all_t c3 (all_nt c4 (all_nt c4 (all_nt c4 (all_nt c4 (all_nt c4 (all_f c9 (all_f c9 (all_f c9 (all_f c12 (all_f c13 (all_f c14 (all_f c15 (all_f c9 (all_f c9 (all_t c18 all_nil)))))))))))))))))))) 
set_option maxHeartbeats 20000000 in
theorem l26_0_w10 (m n : Nat) (x0 : List ((List UInt8) × (List UInt8) × Int)) (s6 : Int) (s7 : Int) (r : AEx × Env × Boxes) (c0 : decide (s7 < s6) = true) (c1 : decide (0 ≤ s7) = true) (c2 : decide (s7 < (((List.length x0) : Nat) : Int)) = true) (c3 : decide (List.length (List.getD x0 (Int.toNat s7) (([] : List UInt8), (([] : List UInt8), 0))).1 ≤ 9223372036854775807) = true) (c4 : (wordG (List.getD x0 (Int.toNat s7) (([] : List UInt8), (([] : List UInt8), 0))).1) = true) (c9 : ¬ decide ((((List.length (List.getD x0 (Int.toNat s7) (([] : List UInt8), (([] : List UInt8), 0))).2.1) : Nat) : Int) > 24) = true) (c12 : ¬ ((List.getD x0 (Int.toNat s7) (([] : List UInt8), (([] : List UInt8), 0))).2.2 == (1)) = true) (c13 : ¬ ((List.getD x0 (Int.toNat s7) (([] : List UInt8), (([] : List UInt8), 0))).2.2 == (2)) = true) (c14 : ¬ ((List.getD x0 (Int.toNat s7) (([] : List UInt8), (([] : List UInt8), 0))).2.2 == (3)) = true) (c15 : ¬ ((List.getD x0 (Int.toNat s7) (([] : List UInt8), (([] : List UInt8), 0))).2.2 == (4)) = true) (c18 : ¬ (([] : List UInt8) == ([] : List UInt8)) = true) (ih : (turns (hds 26 225) 0 225 (evC byref (evCall F S11 (m + 24)) (m + 24) 0 (hds 26) lbl26_0) n (l26_0H x0 s6 ((IntKind.wrap .i64 (s7 + (1))))) (l26_0B x0 s6 ((IntKind.wrap .i64 (s7 + (1)))))).run = some r) : (turns (hds 26 225) 0 225 (evC byref (evCall F S11 (m + 24)) (m + 24) 0 (hds 26) lbl26_0) (n + 1) (l26_0H x0 s6 s7) (l26_0B x0 s6 s7)).run = some r := by
  exact turns_step (M.run_of_path _ [true, true, true, true, false, false, false, false, false, false, false, false, false, false, false, false, false, false, false] _ _ (by kernel_rfl) (all_t c0 (all_t c1 (all_t c2 (all_t c3 (all_nt c4 (all_nt c4 (all_nt c4 (all_nt c4 (all_nt c4 (all_f c9 (all_f c9 (all_f c9 (all_f c12 (all_f c13 (all_f c14 (all_f c15 (all_f c9 (all_f c9 (all_f c18 all_nil)))))))))))))))))))) ih
set_option maxHeartbeats 20000000 in
theorem l26_0_w11 (m n : Nat) (x0 : List ((List UInt8) × (List UInt8) × Int)) (s6 : Int) (s7 : Int) (c0 : decide (s7 < s6) = true) (c1 : decide (0 ≤ s7) = true) (c2 : decide (s7 < (((List.length x0) : Nat) : Int)) = true) (c3 : decide (List.length (List.getD x0 (Int.toNat s7) (([] : List UInt8), (([] : List UInt8), 0))).1 ≤ 9223372036854775807) = true) (c4 : ¬ (wordG (List.getD x0 (Int.toNat s7) (([] : List UInt8), (([] : List UInt8), 0))).1) = true) : (turns (hds 26 225) 0 225 (evC byref (evCall F S11 (m + 24)) (m + 24) 0 (hds 26) lbl26_0) (n + 1) (l26_0H x0 s6 s7) (l26_0B x0 s6 s7)).run = some (let r1 := (wordG (List.getD x0 (Int.toNat s7) (([] : List UInt8), (([] : List UInt8), 0))).1); (.ret, [(.d (.sl (.pair .str (.pair .str (.int .i64))) x0)), .top, (.d (.bool false)), .top, (.ptr 0 0), (.d (.sl (.pair .str (.pair .str (.int .i64))) x0)), (.d (.int .i64 s6)), (.d (.int .i64 s7)), (.d (.bool (decide (s7 < s6)))), (.cptr [(.str (List.getD x0 (Int.toNat s7) (([] : List UInt8), (([] : List UInt8), 0))).1), (.str (List.getD x0 (Int.toNat s7) (([] : List UInt8), (([] : List UInt8), 0))).2.1), (.int .i64 (List.getD x0 (Int.toNat s7) (([] : List UInt8), (([] : List UInt8), 0))).2.2)] 0), (.agg [(.d (.str (List.getD x0 (Int.toNat s7) (([] : List UInt8), (([] : List UInt8), 0))).1)), (.d (.str (List.getD x0 (Int.toNat s7) (([] : List UInt8), (([] : List UInt8), 0))).2.1)), (.d (.int .i64 (List.getD x0 (Int.toNat s7) (([] : List UInt8), (([] : List UInt8), 0))).2.2))]), (.ptr 0 0), (.d (.str (List.getD x0 (Int.toNat s7) (([] : List UInt8), (([] : List UInt8), 0))).1)), (.d (.bool r1)), (.d (.bool (!r1))), (.d (.bool (!r1))), (.tup []), (.tup []), (.tup []), (.tup []), (.d (.bool true)), (.d (.bool true)), (.tup []), (.tup []), (.tup []), (.tup []), (.d (.bool true)), .top, .top, .top, .top], [(.cells [(.d (.str (List.getD x0 (Int.toNat s7) (([] : List UInt8), (([] : List UInt8), 0))).1)), (.d (.str (List.getD x0 (Int.toNat s7) (([] : List UInt8), (([] : List UInt8), 0))).2.1)), (.d (.int .i64 (List.getD x0 (Int.toNat s7) (([] : List UInt8), (([] : List UInt8), 0))).2.2))])])) := by
  exact turns_last (by simp) (M.run_of_path _ [true, true, true, true, true, true, true, true, true, true, true, true, true, true, true] _ _ (by kernel_rfl) (all_t c0 (all_t c1 (all_t c2 (all_t c3 (all_nf c4 (all_nf c4 (all_nf c4 (all_nf c4 (all_nf c4 (all_t rfl (all_t rfl (all_t rfl (all_t rfl (all_t rfl (all_t rfl all_nil)))))))))))))))) 
set_option maxHeartbeats 20000000 in
theorem l26_0_w12 (m n : Nat) (x0 : List ((List UInt8) × (List UInt8) × Int)) (s6 : Int) (s7 : Int) (c0 : ¬ decide (s7 < s6) = true) : (turns (hds 26 225) 0 225 (evC byref (evCall F S11 (m + 24)) (m + 24) 0 (hds 26) lbl26_0) (n + 1) (l26_0H x0 s6 s7) (l26_0B x0 s6 s7)).run = some (.exit 0, [(.d (.sl (.pair .str (.pair .str (.int .i64))) x0)), .top, .top, .top, .top, (.d (.sl (.pair .str (.pair .str (.int .i64))) x0)), (.d (.int .i64 s6)), (.d (.int .i64 s7)), (.d (.bool (decide (s7 < s6)))), .top, .top, .top, .top, .top, .top, .top, .top, .top, .top, .top, .top, .top, .top, .top, .top, .top, .top, .top, .top, .top, .top], []) := by
  exact turns_last (by simp) (M.run_of_path _ [false] _ _ (by kernel_rfl) (all_f c0 all_nil)) 

set_option maxHeartbeats 20000000 in
theorem l26_0_step (m n : Nat) (ih : ∀ (x0 : List ((List UInt8) × (List UInt8) × Int)) (s6 : Int) (s7 : Int) (q : Nat × Int), l26_0 m n x0 s6 s7 = some q → (turns (hds 26 225) 0 225 (evC byref (evCall F S11 (m + 24)) (m + 24) 0 (hds 26) lbl26_0) n (l26_0H x0 s6 s7) (l26_0B x0 s6 s7)).run = some (l26_0E (x0) (s6) (q.2) q.1)) (x0 : List ((List UInt8) × (List UInt8) × Int)) (s6 : Int) (s7 : Int) (q : Nat × Int) (h : l26_0 m (n + 1) x0 s6 s7 = some q) : (turns (hds 26 225) 0 225 (evC byref (evCall F S11 (m + 24)) (m + 24) 0 (hds 26) lbl26_0) (n + 1) (l26_0H x0 s6 s7) (l26_0B x0 s6 s7)).run = some (l26_0E (x0) (s6) (q.2) q.1) := by
  rw [l26_0] at h
  refine ite_cases h (fun c0 h => ?_) (fun c0 h => ?_)
  · skip
    refine ite_cases h (fun c1 h => ?_) (fun c1 h => ?_)
    · skip
      refine ite_cases h (fun c2 h => ?_) (fun c2 h => ?_)
      · skip
        refine ite_cases h (fun c3 h => ?_) (fun c3 h => ?_)
        · skip
          refine ite_cases h (fun c4 h => ?_) (fun c4 h => ?_)
          · skip
            refine ite_cases h (fun c9 h => ?_) (fun c9 h => ?_)
            · skip
              cases h
              exact l26_0_w0 m n x0 s6 s7 c0 c1 c2 c3 c4 c9
            · skip
              refine ite_cases h (fun c12 h => ?_) (fun c12 h => ?_)
              · skip
                refine ite_cases h (fun c15 h => ?_) (fun c15 h => ?_)
                · skip
                  cases h
                  exact l26_0_w1 m n x0 s6 s7 c0 c1 c2 c3 c4 c9 c12 c15
                · skip
                  exact l26_0_w2 m n x0 s6 s7 _ c0 c1 c2 c3 c4 c9 c12 c15 (ih _ _ _ q h)
              · skip
                refine ite_cases h (fun c13 h => ?_) (fun c13 h => ?_)
                · skip
                  refine ite_cases h (fun c16 h => ?_) (fun c16 h => ?_)
                  · skip
                    cases h
                    exact l26_0_w3 m n x0 s6 s7 c0 c1 c2 c3 c4 c9 c12 c13 c16
                  · skip
                    exact l26_0_w4 m n x0 s6 s7 _ c0 c1 c2 c3 c4 c9 c12 c13 c16 (ih _ _ _ q h)
                · skip
                  refine ite_cases h (fun c14 h => ?_) (fun c14 h => ?_)
                  · skip
                    refine ite_cases h (fun c17 h => ?_) (fun c17 h => ?_)
                    · skip
                      cases h
                      exact l26_0_w5 m n x0 s6 s7 c0 c1 c2 c3 c4 c9 c12 c13 c14 c17
                    · skip
                      exact l26_0_w6 m n x0 s6 s7 _ c0 c1 c2 c3 c4 c9 c12 c13 c14 c17 (ih _ _ _ q h)
                  · skip
                    refine ite_cases h (fun c15 h => ?_) (fun c15 h => ?_)
                    · skip
                      refine ite_cases h (fun c18 h => ?_) (fun c18 h => ?_)
                      · skip
                        cases h
                        exact l26_0_w7 m n x0 s6 s7 c0 c1 c2 c3 c4 c9 c12 c13 c14 c15 c18
                      · skip
                        exact l26_0_w8 m n x0 s6 s7 _ c0 c1 c2 c3 c4 c9 c12 c13 c14 c15 c18 (ih _ _ _ q h)
                    · skip
                      refine ite_cases h (fun c18 h => ?_) (fun c18 h => ?_)
                      · skip
                        cases h
                        exact l26_0_w9 m n x0 s6 s7 c0 c1 c2 c3 c4 c9 c12 c13 c14 c15 c18
                      · skip
                        exact l26_0_w10 m n x0 s6 s7 _ c0 c1 c2 c3 c4 c9 c12 c13 c14 c15 c18 (ih _ _ _ q h)
          · skip
            cases h
            exact l26_0_w11 m n x0 s6 s7 c0 c1 c2 c3 c4
        · skip
          cases h
      · skip
        cases h
    · skip
      cases h
  · skip
    cases h
    exact l26_0_w12 m n x0 s6 s7 c0
set_option maxHeartbeats 20000000 in
theorem l26_0_ok (m : Nat) : ∀ (n : Nat) (x0 : List ((List UInt8) × (List UInt8) × Int)) (s6 : Int) (s7 : Int) (q : Nat × Int), l26_0 m n x0 s6 s7 = some q → (turns (hds 26 225) 0 225 (evC byref (evCall F S11 (m + 24)) (m + 24) 0 (hds 26) lbl26_0) n (l26_0H x0 s6 s7) (l26_0B x0 s6 s7)).run = some (l26_0E (x0) (s6) (q.2) q.1)
  | 0, x0, s6, s7, q, h => by cases h
  | n + 1, x0, s6, s7, q, h => l26_0_step m n (l26_0_ok m n) x0 s6 s7 q h

def p26 (m : Nat) (x0 : List ((List UInt8) × (List UInt8) × Int)) : Option (Bool) :=
  if (Option.isSome (l26_0 m (m + 24) x0 ((((List.length x0) : Nat) : Int)) 0)) = true then
    if ((l26_0R m (m + 24) x0 ((((List.length x0) : Nat) : Int)) 0).1 == 0) = true then
      some (false)
    else
      if ((l26_0R m (m + 24) x0 ((((List.length x0) : Nat) : Int)) 0).1 == 1) = true then
        some (false)
      else
        if ((l26_0R m (m + 24) x0 ((((List.length x0) : Nat) : Int)) 0).1 == 2) = true then
          some (false)
        else
          if ((l26_0R m (m + 24) x0 ((((List.length x0) : Nat) : Int)) 0).1 == 3) = true then
            some (false)
          else
            if ((l26_0R m (m + 24) x0 ((((List.length x0) : Nat) : Int)) 0).1 == 4) = true then
              some (false)
            else
              if ((l26_0R m (m + 24) x0 ((((List.length x0) : Nat) : Int)) 0).1 == 5) = true then
                some (false)
              else
                if ((l26_0R m (m + 24) x0 ((((List.length x0) : Nat) : Int)) 0).1 == 6) = true then
                  some (false)
                else
                  if ((l26_0R m (m + 24) x0 ((((List.length x0) : Nat) : Int)) 0).1 == 7) = true then
                    some (decide ((((List.length x0) : Nat) : Int) ≤ 6))
                  else
                    none
  else
    none
set_option maxHeartbeats 20000000 in
theorem p26_ok (m : Nat) (x0 : List ((List UInt8) × (List UInt8) × Int)) (q : Bool) (h : p26 m x0 = some q) : ∃ r B1, (evCall F S11 (m + 25) 26 [(.d (.sl (.pair .str (.pair .str (.int .i64))) x0))] []).run = some (r, B1) ∧ 0 ≤ B1.length ∧ wkR B1 [] r (.d (.bool (q))) ∧ wkBs B1 [] 0 [] := by
  unfold p26 at h
  refine ite_cases h (fun c0 h => ?_) (fun c0 h => ?_)
  · skip
    refine ite_cases h (fun c1 h => ?_) (fun c1 h => ?_)
    · skip
      cases h
      refine ⟨(.d (.bool false)), [], runT_ok (LS := (fun k => if k = 225 then some (l26_0E x0 (((((List.length x0) : Nat) : Int))) ((l26_0R m (m + 24) x0 ((((List.length x0) : Nat) : Int)) 0).2) 0) else none)) (fn := fn26) (vis := [(225, l26_0H x0 ((((List.length x0) : Nat) : Int)) 0, l26_0B x0 ((((List.length x0) : Nat) : Int)) 0)]) (by kernel_rfl) rfl (by kernel_rfl) (M.run_of_path _ [] _ _ (by kernel_rfl) all_nil) ?_, by simp, (wkR.one (wkV.one (wk1.eq rfl))), trivial⟩
      intro p hp p2 hq
      rcases List.mem_cons.1 hp with rfl | hp
      · skip
        have h3 := l26_0_ok m (m + 24) x0 ((((List.length x0) : Nat) : Int)) 0 _ (some_getD (d := l26_0D) c0)
        rw [eq_of_beq c1] at h3
        exact Eq.trans (Eq.mp (by kernel_rfl) h3) hq
      cases hp
    · skip
      refine ite_cases h (fun c2 h => ?_) (fun c2 h => ?_)
      · skip
        cases h
        refine ⟨(.d (.bool false)), [], runT_ok (LS := (fun k => if k = 225 then some (l26_0E x0 (((((List.length x0) : Nat) : Int))) ((l26_0R m (m + 24) x0 ((((List.length x0) : Nat) : Int)) 0).2) 1) else none)) (fn := fn26) (vis := [(225, l26_0H x0 ((((List.length x0) : Nat) : Int)) 0, l26_0B x0 ((((List.length x0) : Nat) : Int)) 0)]) (by kernel_rfl) rfl (by kernel_rfl) (M.run_of_path _ [] _ _ (by kernel_rfl) all_nil) ?_, by simp, (wkR.one (wkV.one (wk1.eq rfl))), trivial⟩
        intro p hp p2 hq
        rcases List.mem_cons.1 hp with rfl | hp
        · skip
          have h3 := l26_0_ok m (m + 24) x0 ((((List.length x0) : Nat) : Int)) 0 _ (some_getD (d := l26_0D) c0)
          rw [eq_of_beq c2] at h3
          exact Eq.trans (Eq.mp (by kernel_rfl) h3) hq
        cases hp
      · skip
        refine ite_cases h (fun c3 h => ?_) (fun c3 h => ?_)
        · skip
          cases h
          refine ⟨(.d (.bool false)), [], runT_ok (LS := (fun k => if k = 225 then some (l26_0E x0 (((((List.length x0) : Nat) : Int))) ((l26_0R m (m + 24) x0 ((((List.length x0) : Nat) : Int)) 0).2) 2) else none)) (fn := fn26) (vis := [(225, l26_0H x0 ((((List.length x0) : Nat) : Int)) 0, l26_0B x0 ((((List.length x0) : Nat) : Int)) 0)]) (by kernel_rfl) rfl (by kernel_rfl) (M.run_of_path _ [] _ _ (by kernel_rfl) all_nil) ?_, by simp, (wkR.one (wkV.one (wk1.eq rfl))), trivial⟩
          intro p hp p2 hq
          rcases List.mem_cons.1 hp with rfl | hp
          · skip
            have h3 := l26_0_ok m (m + 24) x0 ((((List.length x0) : Nat) : Int)) 0 _ (some_getD (d := l26_0D) c0)
            rw [eq_of_beq c3] at h3
            exact Eq.trans (Eq.mp (by kernel_rfl) h3) hq
          cases hp
        · skip
          refine ite_cases h (fun c4 h => ?_) (fun c4 h => ?_)
          · skip
            cases h
            refine ⟨(.d (.bool false)), [], runT_ok (LS := (fun k => if k = 225 then some (l26_0E x0 (((((List.length x0) : Nat) : Int))) ((l26_0R m (m + 24) x0 ((((List.length x0) : Nat) : Int)) 0).2) 3) else none)) (fn := fn26) (vis := [(225, l26_0H x0 ((((List.length x0) : Nat) : Int)) 0, l26_0B x0 ((((List.length x0) : Nat) : Int)) 0)]) (by kernel_rfl) rfl (by kernel_rfl) (M.run_of_path _ [] _ _ (by kernel_rfl) all_nil) ?_, by simp, (wkR.one (wkV.one (wk1.eq rfl))), trivial⟩
            intro p hp p2 hq
            rcases List.mem_cons.1 hp with rfl | hp
            · skip
              have h3 := l26_0_ok m (m + 24) x0 ((((List.length x0) : Nat) : Int)) 0 _ (some_getD (d := l26_0D) c0)
              rw [eq_of_beq c4] at h3
              exact Eq.trans (Eq.mp (by kernel_rfl) h3) hq
            cases hp
          · skip
            refine ite_cases h (fun c5 h => ?_) (fun c5 h => ?_)
            · skip
              cases h
              refine ⟨(.d (.bool false)), [], runT_ok (LS := (fun k => if k = 225 then some (l26_0E x0 (((((List.length x0) : Nat) : Int))) ((l26_0R m (m + 24) x0 ((((List.length x0) : Nat) : Int)) 0).2) 4) else none)) (fn := fn26) (vis := [(225, l26_0H x0 ((((List.length x0) : Nat) : Int)) 0, l26_0B x0 ((((List.length x0) : Nat) : Int)) 0)]) (by kernel_rfl) rfl (by kernel_rfl) (M.run_of_path _ [] _ _ (by kernel_rfl) all_nil) ?_, by simp, (wkR.one (wkV.one (wk1.eq rfl))), trivial⟩
              intro p hp p2 hq
              rcases List.mem_cons.1 hp with rfl | hp
              · skip
                have h3 := l26_0_ok m (m + 24) x0 ((((List.length x0) : Nat) : Int)) 0 _ (some_getD (d := l26_0D) c0)
                rw [eq_of_beq c5] at h3
                exact Eq.trans (Eq.mp (by kernel_rfl) h3) hq
              cases hp
            · skip
              refine ite_cases h (fun c6 h => ?_) (fun c6 h => ?_)
              · skip
                cases h
                refine ⟨(.d (.bool false)), [], runT_ok (LS := (fun k => if k = 225 then some (l26_0E x0 (((((List.length x0) : Nat) : Int))) ((l26_0R m (m + 24) x0 ((((List.length x0) : Nat) : Int)) 0).2) 5) else none)) (fn := fn26) (vis := [(225, l26_0H x0 ((((List.length x0) : Nat) : Int)) 0, l26_0B x0 ((((List.length x0) : Nat) : Int)) 0)]) (by kernel_rfl) rfl (by kernel_rfl) (M.run_of_path _ [] _ _ (by kernel_rfl) all_nil) ?_, by simp, (wkR.one (wkV.one (wk1.eq rfl))), trivial⟩
                intro p hp p2 hq
                rcases List.mem_cons.1 hp with rfl | hp
                · skip
                  have h3 := l26_0_ok m (m + 24) x0 ((((List.length x0) : Nat) : Int)) 0 _ (some_getD (d := l26_0D) c0)
                  rw [eq_of_beq c6] at h3
                  exact Eq.trans (Eq.mp (by kernel_rfl) h3) hq
                cases hp
              · skip
                refine ite_cases h (fun c7 h => ?_) (fun c7 h => ?_)
                · skip
                  cases h
                  refine ⟨(.d (.bool false)), [], runT_ok (LS := (fun k => if k = 225 then some (l26_0E x0 (((((List.length x0) : Nat) : Int))) ((l26_0R m (m + 24) x0 ((((List.length x0) : Nat) : Int)) 0).2) 6) else none)) (fn := fn26) (vis := [(225, l26_0H x0 ((((List.length x0) : Nat) : Int)) 0, l26_0B x0 ((((List.length x0) : Nat) : Int)) 0)]) (by kernel_rfl) rfl (by kernel_rfl) (M.run_of_path _ [] _ _ (by kernel_rfl) all_nil) ?_, by simp, (wkR.one (wkV.one (wk1.eq rfl))), trivial⟩
                  intro p hp p2 hq
                  rcases List.mem_cons.1 hp with rfl | hp
                  · skip
                    have h3 := l26_0_ok m (m + 24) x0 ((((List.length x0) : Nat) : Int)) 0 _ (some_getD (d := l26_0D) c0)
                    rw [eq_of_beq c7] at h3
                    exact Eq.trans (Eq.mp (by kernel_rfl) h3) hq
                  cases hp
                · skip
                  refine ite_cases h (fun c8 h => ?_) (fun c8 h => ?_)
                  · skip
                    cases h
                    refine ⟨(.d (.bool (decide ((((List.length x0) : Nat) : Int) ≤ 6)))), [], runT_ok (LS := (fun k => if k = 225 then some (l26_0E x0 (((((List.length x0) : Nat) : Int))) ((l26_0R m (m + 24) x0 ((((List.length x0) : Nat) : Int)) 0).2) 7) else none)) (fn := fn26) (vis := [(225, l26_0H x0 ((((List.length x0) : Nat) : Int)) 0, l26_0B x0 ((((List.length x0) : Nat) : Int)) 0)]) (by kernel_rfl) rfl (by kernel_rfl) (M.run_of_path _ [] _ _ (by kernel_rfl) all_nil) ?_, by simp, (wkR.one (wkV.one (wk1.eq rfl))), trivial⟩
                    intro p hp p2 hq
                    rcases List.mem_cons.1 hp with rfl | hp
                    · skip
                      have h3 := l26_0_ok m (m + 24) x0 ((((List.length x0) : Nat) : Int)) 0 _ (some_getD (d := l26_0D) c0)
                      rw [eq_of_beq c8] at h3
                      exact Eq.trans (Eq.mp (by kernel_rfl) h3) hq
                    cases hp
                  · skip
                    cases h
  · skip
    cases h

/-- May a matcher be? -/
def okM (m : MT) : Bool := wordG m.1 && decide (m.2.1.length ≤ 24) && decide (1 ≤ m.2.2) && decide (m.2.2 ≤ 4)
def rightG (ms : List MT) : Bool := ms.all okM && decide (ms.length ≤ 6)
def okPre (m : MT) : Bool := decide (m.1.length ≤ 9223372036854775807)
def rightPre (ms : List MT) : Bool := decide (ms.length ≤ 1000000 ∧ ∀ m ∈ ms, m.1.length ≤ 9223372036854775807)
theorem right_loop (m : Nat) (ms : List MT) (h1 : ms.length ≤ 1000000) (h2 : ∀ x ∈ ms, x.1.length ≤ 9223372036854775807) : ∀ (n k : Nat), k ≤ ms.length → ms.length - k < n → ∃ e j, l26_0 m n ms (ms.length : Nat) (k : Nat) = some (e, j) ∧ ((e = 7 ∧ (ms.drop k).all okM = true) ∨ ((e = 0 ∨ e = 1 ∨ e = 2 ∨ e = 3 ∨ e = 4 ∨ e = 5 ∨ e = 6) ∧ (ms.drop k).all okM = false))
  | 0, k, _, h => by omega
  | n + 1, k, g1, g2 => by
    rw [l26_0]
    by_cases hk : k < ms.length
    · have e1 : decide (((k : Nat) : Int) < (((List.length ms) : Nat) : Int)) = true := decide_eq_true (by omega)
      have e2 : decide ((0 : Int) ≤ ((k : Nat) : Int)) = true := decide_eq_true (by omega)
      have e7 : IntKind.wrap .i64 (((k : Nat) : Int) + (1)) = ((k + 1 : Nat) : Int) := by rw [wrap_id (by omega) (by omega)]; rfl
      have hq := h2 _ (getD_mem ms k (([] : List UInt8), (([] : List UInt8), 0)) hk)
      have go := right_loop m ms h1 h2 n (k + 1) (by omega) (by omega)
      rw [drop_getD ms k (([] : List UInt8), (([] : List UInt8), 0)) hk]
      simp only [show Int.toNat ((k : Nat) : Int) = k from rfl, e1, e2, e7, List.all_cons, ↓reduceIte]
      generalize ms.getD k (([] : List UInt8), (([] : List UInt8), 0)) = q at *
      have e3 : decide (List.length q.1 ≤ 9223372036854775807) = true := decide_eq_true hq
      have n1 : (([61] : List UInt8) == ([] : List UInt8)) = false := rfl
      have n2 : (([33, 61] : List UInt8) == ([] : List UInt8)) = false := rfl
      have n3 : (([94, 61] : List UInt8) == ([] : List UInt8)) = false := rfl
      have n4 : (([33, 94] : List UInt8) == ([] : List UInt8)) = false := rfl
      have n5 : (([] : List UInt8) == ([] : List UInt8)) = true := rfl
      have hok : okM q = (wordG q.1 && decide (q.2.1.length ≤ 24) && decide (1 ≤ q.2.2) && decide (q.2.2 ≤ 4)) := rfl
      simp only [e3, n1, n2, n3, n4, n5, ↓reduceIte, Bool.false_eq_true]
      cases c1 : wordG q.1 with
      | false =>
        rw [c1] at hok
        simp only [↓reduceIte, Bool.false_eq_true]
        exact ⟨0, _, rfl, .inr ⟨by simp, by rw [hok]; rfl⟩⟩
      | true =>
        rw [c1] at hok
        by_cases c2 : q.2.1.length ≤ 24
        · have f1 : decide ((((List.length q.2.1) : Nat) : Int) > 24) = false := decide_eq_false (by omega)
          rw [show decide (q.2.1.length ≤ 24) = true from decide_eq_true c2] at hok
          simp only [f1, ↓reduceIte, Bool.false_eq_true]
          have yes : 1 ≤ q.2.2 → q.2.2 ≤ 4 → okM q = true := fun a b => by rw [hok, decide_eq_true a, decide_eq_true b]; rfl
          by_cases k1 : q.2.2 = 1
          · rw [if_pos (by simp [k1]), yes (by omega) (by omega), Bool.true_and]; exact go
          · rw [if_neg (by simpa using k1)]
            by_cases k2 : q.2.2 = 2
            · rw [if_pos (by simp [k2]), yes (by omega) (by omega), Bool.true_and]; exact go
            · rw [if_neg (by simpa using k2)]
              by_cases k3 : q.2.2 = 3
              · rw [if_pos (by simp [k3]), yes (by omega) (by omega), Bool.true_and]; exact go
              · rw [if_neg (by simpa using k3)]
                by_cases k4 : q.2.2 = 4
                · rw [if_pos (by simp [k4]), yes (by omega) (by omega), Bool.true_and]; exact go
                · rw [if_neg (by simpa using k4)]
                  refine ⟨6, _, rfl, .inr ⟨by simp, ?_⟩⟩
                  have : okM q = false := by
                    rw [hok]
                    by_cases c : 1 ≤ q.2.2
                    · rw [show decide (q.2.2 ≤ 4) = false from decide_eq_false (by omega)]; simp
                    · rw [show decide (1 ≤ q.2.2) = false from decide_eq_false c]; simp
                  rw [this]; rfl
        · have f1 : decide ((((List.length q.2.1) : Nat) : Int) > 24) = true := decide_eq_true (by omega)
          rw [show decide (q.2.1.length ≤ 24) = false from decide_eq_false c2] at hok
          simp only [f1, ↓reduceIte]
          exact ⟨1, _, rfl, .inr ⟨by simp, by rw [hok]; rfl⟩⟩
    · have e1 : decide (((k : Nat) : Int) < (((List.length ms) : Nat) : Int)) = false := decide_eq_false (by omega)
      rw [e1, if_neg (by simp), List.drop_eq_nil_of_le (by omega)]
      exact ⟨7, _, rfl, .inl ⟨rfl, rfl⟩⟩
theorem right26 (ms : List MT) (h : rightPre ms = true) : ∃ m, p26 m ms = some (rightG ms) := by
  have ⟨h1, h2⟩ := of_decide_eq_true h
  refine ⟨ms.length, ?_⟩
  obtain ⟨e, j, hr, hc⟩ := right_loop ms.length ms h1 h2 (ms.length + 24) 0 (by omega) (by omega)
  simp only [Int.natCast_zero, List.drop_zero] at hr hc
  have q2 : decide ((((List.length ms) : Nat) : Int) ≤ 6) = decide (ms.length ≤ 6) := by rw [decide_eq_decide]; omega
  unfold p26 rightG
  simp only [l26_0R, hr, q2, Option.isSome_some, Option.getD_some, ↓reduceIte]
  rcases hc with ⟨rfl, hc⟩ | ⟨rfl | rfl | rfl | rfl | rfl | rfl | rfl, hc⟩ <;> rw [hc] <;> first | rfl | simp
def s26 : List AV → Boxes → M (AV × Boxes) := normS [.val (.sl (.pair .str (.pair .str (.int .i64))))] [] fun xs B => match xs, B with
  | [(.d (.sl (.pair .str (.pair .str (.int .i64))) c1))], [] => .chk (rightPre c1) (.ret ((.d (.bool (rightG c1))), []))
  | _, _ => .fail
theorem s26_at : CallAt Tryd.prog 26 s26 := by
  refine CallAt.norm (CallAt.weakE (g := fun n => evCall F S11 n 26) (fun n => evCall_atH mixed kinds hds S11 S11_ok n 26) fun xs B r' B' hr => ?_) _ _
  split at hr
  · rename_i c1
    obtain ⟨hp, hr⟩ := (M.run_chk _ _ _).1 hr
    simp only [M.run, Option.some.injEq, Prod.mk.injEq] at hr
    obtain ⟨rfl, rfl⟩ := hr
    obtain ⟨m, hm⟩ := right26 c1 hp
    obtain ⟨r, B1, h1, h2, h3, h4⟩ := p26_ok m c1 _ hm
    exact ⟨m + 25, r, B1, h1, by simp, h2, h3, h4⟩
  · simp [M.run] at hr
noncomputable def S12 : FuncId → Option (List AV → Boxes → M (AV × Boxes)) := fun f => if f = 26 then some s26 else S11 f
set_option maxHeartbeats 20000000 in
theorem S12_ok : ∀ f s, S12 f = some s → CallAt Tryd.prog f s := by
  intro f s h
  unfold S12 at h
  split at h
  · rename_i e; subst e; cases h; exact s26_at
  · exact S11_ok f s h

end Go.Proofs.YtghkbjflejgieaaDoor.Dec
