/- klaxonkeep.Set.Set. MatchRuns, MuteRuns, reckoned. slices.Equal of labels, slices.Clone. Silenced, equal. -/
import Derived.Test.YtghkbjflejgieaaDoorQM5
import Derived.KernelRfl
namespace Go.Proofs.YtghkbjflejgieaaDoor.Dec
open Go.Ev
set_option linter.unusedVariables false
set_option linter.unusedSimpArgs false
set_option maxRecDepth 100000
noncomputable def fn15 : AFn := (F 15).getD ⟨0, [], .bad, false, false, noHd⟩
noncomputable def body15 : AC := fn15.body
noncomputable def lbu15_0 : AC := loopBody 3610 body15
def p15 (m : Nat) (x0 : (List Int) × (List Int)) : Option ((List ((List UInt8) × (List UInt8)))) :=
  if decide (0 < (((List.length x0.1) : Nat) : Int)) = true then
    if ((IntKind.wrap .i64 ((((BitVec.ofInt 64 (List.getD x0.1 0 0) &&& BitVec.ofInt 64 (1)).toNat : Nat) : Int))) == (1)) = true then
      if pickPre x0.2 (0) = true then
        if decide (0 ≤ (withinI (pickG x0.2 (0)) (0) (7))) = true then
          if decide ((withinI (pickG x0.2 (0)) (0) (7)) < 8) = true then
            if decide (1 < (((List.length x0.1) : Nat) : Int)) = true then
              if ((IntKind.wrap .i64 ((((BitVec.ofInt 64 (List.getD x0.1 1 0) &&& BitVec.ofInt 64 (1)).toNat : Nat) : Int))) == (1)) = true then
                if pickPre x0.2 (1) = true then
                  if decide (0 ≤ (withinI (pickG x0.2 (1)) (0) (7))) = true then
                    if decide ((withinI (pickG x0.2 (1)) (0) (7)) < 8) = true then
                      if decide (2 < (((List.length x0.1) : Nat) : Int)) = true then
                        if ((IntKind.wrap .i64 ((((BitVec.ofInt 64 (List.getD x0.1 2 0) &&& BitVec.ofInt 64 (1)).toNat : Nat) : Int))) == (1)) = true then
                          if pickPre x0.2 (2) = true then
                            if decide (0 ≤ (withinI (pickG x0.2 (2)) (0) (7))) = true then
                              if decide ((withinI (pickG x0.2 (2)) (0) (7)) < 8) = true then
                                some ([(([97] : List UInt8), (List.getD [([120] : List UInt8), ([121] : List UInt8), ([120, 121] : List UInt8), ([49] : List UInt8), ([34] : List UInt8), ([92] : List UInt8), ([123, 125] : List UInt8), ([122, 32, 122] : List UInt8)] (Int.toNat (withinI (pickG x0.2 (0)) (0) (7))) ([] : List UInt8))), (([98] : List UInt8), (List.getD [([120] : List UInt8), ([121] : List UInt8), ([120, 121] : List UInt8), ([49] : List UInt8), ([34] : List UInt8), ([92] : List UInt8), ([123, 125] : List UInt8), ([122, 32, 122] : List UInt8)] (Int.toNat (withinI (pickG x0.2 (1)) (0) (7))) ([] : List UInt8))), (([99] : List UInt8), (List.getD [([120] : List UInt8), ([121] : List UInt8), ([120, 121] : List UInt8), ([49] : List UInt8), ([34] : List UInt8), ([92] : List UInt8), ([123, 125] : List UInt8), ([122, 32, 122] : List UInt8)] (Int.toNat (withinI (pickG x0.2 (2)) (0) (7))) ([] : List UInt8)))])
                              else
                                none
                            else
                              none
                          else
                            none
                        else
                          some ([(([97] : List UInt8), (List.getD [([120] : List UInt8), ([121] : List UInt8), ([120, 121] : List UInt8), ([49] : List UInt8), ([34] : List UInt8), ([92] : List UInt8), ([123, 125] : List UInt8), ([122, 32, 122] : List UInt8)] (Int.toNat (withinI (pickG x0.2 (0)) (0) (7))) ([] : List UInt8))), (([98] : List UInt8), (List.getD [([120] : List UInt8), ([121] : List UInt8), ([120, 121] : List UInt8), ([49] : List UInt8), ([34] : List UInt8), ([92] : List UInt8), ([123, 125] : List UInt8), ([122, 32, 122] : List UInt8)] (Int.toNat (withinI (pickG x0.2 (1)) (0) (7))) ([] : List UInt8)))])
                      else
                        some ([(([97] : List UInt8), (List.getD [([120] : List UInt8), ([121] : List UInt8), ([120, 121] : List UInt8), ([49] : List UInt8), ([34] : List UInt8), ([92] : List UInt8), ([123, 125] : List UInt8), ([122, 32, 122] : List UInt8)] (Int.toNat (withinI (pickG x0.2 (0)) (0) (7))) ([] : List UInt8))), (([98] : List UInt8), (List.getD [([120] : List UInt8), ([121] : List UInt8), ([120, 121] : List UInt8), ([49] : List UInt8), ([34] : List UInt8), ([92] : List UInt8), ([123, 125] : List UInt8), ([122, 32, 122] : List UInt8)] (Int.toNat (withinI (pickG x0.2 (1)) (0) (7))) ([] : List UInt8)))])
                    else
                      none
                  else
                    none
                else
                  none
              else
                if decide (2 < (((List.length x0.1) : Nat) : Int)) = true then
                  if ((IntKind.wrap .i64 ((((BitVec.ofInt 64 (List.getD x0.1 2 0) &&& BitVec.ofInt 64 (1)).toNat : Nat) : Int))) == (1)) = true then
                    if pickPre x0.2 (2) = true then
                      if decide (0 ≤ (withinI (pickG x0.2 (2)) (0) (7))) = true then
                        if decide ((withinI (pickG x0.2 (2)) (0) (7)) < 8) = true then
                          some ([(([97] : List UInt8), (List.getD [([120] : List UInt8), ([121] : List UInt8), ([120, 121] : List UInt8), ([49] : List UInt8), ([34] : List UInt8), ([92] : List UInt8), ([123, 125] : List UInt8), ([122, 32, 122] : List UInt8)] (Int.toNat (withinI (pickG x0.2 (0)) (0) (7))) ([] : List UInt8))), (([99] : List UInt8), (List.getD [([120] : List UInt8), ([121] : List UInt8), ([120, 121] : List UInt8), ([49] : List UInt8), ([34] : List UInt8), ([92] : List UInt8), ([123, 125] : List UInt8), ([122, 32, 122] : List UInt8)] (Int.toNat (withinI (pickG x0.2 (2)) (0) (7))) ([] : List UInt8)))])
                        else
                          none
                      else
                        none
                    else
                      none
                  else
                    some ([(([97] : List UInt8), (List.getD [([120] : List UInt8), ([121] : List UInt8), ([120, 121] : List UInt8), ([49] : List UInt8), ([34] : List UInt8), ([92] : List UInt8), ([123, 125] : List UInt8), ([122, 32, 122] : List UInt8)] (Int.toNat (withinI (pickG x0.2 (0)) (0) (7))) ([] : List UInt8)))])
                else
                  some ([(([97] : List UInt8), (List.getD [([120] : List UInt8), ([121] : List UInt8), ([120, 121] : List UInt8), ([49] : List UInt8), ([34] : List UInt8), ([92] : List UInt8), ([123, 125] : List UInt8), ([122, 32, 122] : List UInt8)] (Int.toNat (withinI (pickG x0.2 (0)) (0) (7))) ([] : List UInt8)))])
            else
              if decide (2 < (((List.length x0.1) : Nat) : Int)) = true then
                if ((IntKind.wrap .i64 ((((BitVec.ofInt 64 (List.getD x0.1 2 0) &&& BitVec.ofInt 64 (1)).toNat : Nat) : Int))) == (1)) = true then
                  if pickPre x0.2 (2) = true then
                    if decide (0 ≤ (withinI (pickG x0.2 (2)) (0) (7))) = true then
                      if decide ((withinI (pickG x0.2 (2)) (0) (7)) < 8) = true then
                        some ([(([97] : List UInt8), (List.getD [([120] : List UInt8), ([121] : List UInt8), ([120, 121] : List UInt8), ([49] : List UInt8), ([34] : List UInt8), ([92] : List UInt8), ([123, 125] : List UInt8), ([122, 32, 122] : List UInt8)] (Int.toNat (withinI (pickG x0.2 (0)) (0) (7))) ([] : List UInt8))), (([99] : List UInt8), (List.getD [([120] : List UInt8), ([121] : List UInt8), ([120, 121] : List UInt8), ([49] : List UInt8), ([34] : List UInt8), ([92] : List UInt8), ([123, 125] : List UInt8), ([122, 32, 122] : List UInt8)] (Int.toNat (withinI (pickG x0.2 (2)) (0) (7))) ([] : List UInt8)))])
                      else
                        none
                    else
                      none
                  else
                    none
                else
                  some ([(([97] : List UInt8), (List.getD [([120] : List UInt8), ([121] : List UInt8), ([120, 121] : List UInt8), ([49] : List UInt8), ([34] : List UInt8), ([92] : List UInt8), ([123, 125] : List UInt8), ([122, 32, 122] : List UInt8)] (Int.toNat (withinI (pickG x0.2 (0)) (0) (7))) ([] : List UInt8)))])
              else
                some ([(([97] : List UInt8), (List.getD [([120] : List UInt8), ([121] : List UInt8), ([120, 121] : List UInt8), ([49] : List UInt8), ([34] : List UInt8), ([92] : List UInt8), ([123, 125] : List UInt8), ([122, 32, 122] : List UInt8)] (Int.toNat (withinI (pickG x0.2 (0)) (0) (7))) ([] : List UInt8)))])
          else
            none
        else
          none
      else
        none
    else
      if decide (1 < (((List.length x0.1) : Nat) : Int)) = true then
        if ((IntKind.wrap .i64 ((((BitVec.ofInt 64 (List.getD x0.1 1 0) &&& BitVec.ofInt 64 (1)).toNat : Nat) : Int))) == (1)) = true then
          if pickPre x0.2 (1) = true then
            if decide (0 ≤ (withinI (pickG x0.2 (1)) (0) (7))) = true then
              if decide ((withinI (pickG x0.2 (1)) (0) (7)) < 8) = true then
                if decide (2 < (((List.length x0.1) : Nat) : Int)) = true then
                  if ((IntKind.wrap .i64 ((((BitVec.ofInt 64 (List.getD x0.1 2 0) &&& BitVec.ofInt 64 (1)).toNat : Nat) : Int))) == (1)) = true then
                    if pickPre x0.2 (2) = true then
                      if decide (0 ≤ (withinI (pickG x0.2 (2)) (0) (7))) = true then
                        if decide ((withinI (pickG x0.2 (2)) (0) (7)) < 8) = true then
                          some ([(([98] : List UInt8), (List.getD [([120] : List UInt8), ([121] : List UInt8), ([120, 121] : List UInt8), ([49] : List UInt8), ([34] : List UInt8), ([92] : List UInt8), ([123, 125] : List UInt8), ([122, 32, 122] : List UInt8)] (Int.toNat (withinI (pickG x0.2 (1)) (0) (7))) ([] : List UInt8))), (([99] : List UInt8), (List.getD [([120] : List UInt8), ([121] : List UInt8), ([120, 121] : List UInt8), ([49] : List UInt8), ([34] : List UInt8), ([92] : List UInt8), ([123, 125] : List UInt8), ([122, 32, 122] : List UInt8)] (Int.toNat (withinI (pickG x0.2 (2)) (0) (7))) ([] : List UInt8)))])
                        else
                          none
                      else
                        none
                    else
                      none
                  else
                    some ([(([98] : List UInt8), (List.getD [([120] : List UInt8), ([121] : List UInt8), ([120, 121] : List UInt8), ([49] : List UInt8), ([34] : List UInt8), ([92] : List UInt8), ([123, 125] : List UInt8), ([122, 32, 122] : List UInt8)] (Int.toNat (withinI (pickG x0.2 (1)) (0) (7))) ([] : List UInt8)))])
                else
                  some ([(([98] : List UInt8), (List.getD [([120] : List UInt8), ([121] : List UInt8), ([120, 121] : List UInt8), ([49] : List UInt8), ([34] : List UInt8), ([92] : List UInt8), ([123, 125] : List UInt8), ([122, 32, 122] : List UInt8)] (Int.toNat (withinI (pickG x0.2 (1)) (0) (7))) ([] : List UInt8)))])
              else
                none
            else
              none
          else
            none
        else
          if decide (2 < (((List.length x0.1) : Nat) : Int)) = true then
            if ((IntKind.wrap .i64 ((((BitVec.ofInt 64 (List.getD x0.1 2 0) &&& BitVec.ofInt 64 (1)).toNat : Nat) : Int))) == (1)) = true then
              if pickPre x0.2 (2) = true then
                if decide (0 ≤ (withinI (pickG x0.2 (2)) (0) (7))) = true then
                  if decide ((withinI (pickG x0.2 (2)) (0) (7)) < 8) = true then
                    some ([(([99] : List UInt8), (List.getD [([120] : List UInt8), ([121] : List UInt8), ([120, 121] : List UInt8), ([49] : List UInt8), ([34] : List UInt8), ([92] : List UInt8), ([123, 125] : List UInt8), ([122, 32, 122] : List UInt8)] (Int.toNat (withinI (pickG x0.2 (2)) (0) (7))) ([] : List UInt8)))])
                  else
                    none
                else
                  none
              else
                none
            else
              some (([] : List ((List UInt8) × (List UInt8))))
          else
            some (([] : List ((List UInt8) × (List UInt8))))
      else
        if decide (2 < (((List.length x0.1) : Nat) : Int)) = true then
          if ((IntKind.wrap .i64 ((((BitVec.ofInt 64 (List.getD x0.1 2 0) &&& BitVec.ofInt 64 (1)).toNat : Nat) : Int))) == (1)) = true then
            if pickPre x0.2 (2) = true then
              if decide (0 ≤ (withinI (pickG x0.2 (2)) (0) (7))) = true then
                if decide ((withinI (pickG x0.2 (2)) (0) (7)) < 8) = true then
                  some ([(([99] : List UInt8), (List.getD [([120] : List UInt8), ([121] : List UInt8), ([120, 121] : List UInt8), ([49] : List UInt8), ([34] : List UInt8), ([92] : List UInt8), ([123, 125] : List UInt8), ([122, 32, 122] : List UInt8)] (Int.toNat (withinI (pickG x0.2 (2)) (0) (7))) ([] : List UInt8)))])
                else
                  none
              else
                none
            else
              none
          else
            some (([] : List ((List UInt8) × (List UInt8))))
        else
          some (([] : List ((List UInt8) × (List UInt8))))
  else
    if decide (1 < (((List.length x0.1) : Nat) : Int)) = true then
      if ((IntKind.wrap .i64 ((((BitVec.ofInt 64 (List.getD x0.1 1 0) &&& BitVec.ofInt 64 (1)).toNat : Nat) : Int))) == (1)) = true then
        if pickPre x0.2 (1) = true then
          if decide (0 ≤ (withinI (pickG x0.2 (1)) (0) (7))) = true then
            if decide ((withinI (pickG x0.2 (1)) (0) (7)) < 8) = true then
              if decide (2 < (((List.length x0.1) : Nat) : Int)) = true then
                if ((IntKind.wrap .i64 ((((BitVec.ofInt 64 (List.getD x0.1 2 0) &&& BitVec.ofInt 64 (1)).toNat : Nat) : Int))) == (1)) = true then
                  if pickPre x0.2 (2) = true then
                    if decide (0 ≤ (withinI (pickG x0.2 (2)) (0) (7))) = true then
                      if decide ((withinI (pickG x0.2 (2)) (0) (7)) < 8) = true then
                        some ([(([98] : List UInt8), (List.getD [([120] : List UInt8), ([121] : List UInt8), ([120, 121] : List UInt8), ([49] : List UInt8), ([34] : List UInt8), ([92] : List UInt8), ([123, 125] : List UInt8), ([122, 32, 122] : List UInt8)] (Int.toNat (withinI (pickG x0.2 (1)) (0) (7))) ([] : List UInt8))), (([99] : List UInt8), (List.getD [([120] : List UInt8), ([121] : List UInt8), ([120, 121] : List UInt8), ([49] : List UInt8), ([34] : List UInt8), ([92] : List UInt8), ([123, 125] : List UInt8), ([122, 32, 122] : List UInt8)] (Int.toNat (withinI (pickG x0.2 (2)) (0) (7))) ([] : List UInt8)))])
                      else
                        none
                    else
                      none
                  else
                    none
                else
                  some ([(([98] : List UInt8), (List.getD [([120] : List UInt8), ([121] : List UInt8), ([120, 121] : List UInt8), ([49] : List UInt8), ([34] : List UInt8), ([92] : List UInt8), ([123, 125] : List UInt8), ([122, 32, 122] : List UInt8)] (Int.toNat (withinI (pickG x0.2 (1)) (0) (7))) ([] : List UInt8)))])
              else
                some ([(([98] : List UInt8), (List.getD [([120] : List UInt8), ([121] : List UInt8), ([120, 121] : List UInt8), ([49] : List UInt8), ([34] : List UInt8), ([92] : List UInt8), ([123, 125] : List UInt8), ([122, 32, 122] : List UInt8)] (Int.toNat (withinI (pickG x0.2 (1)) (0) (7))) ([] : List UInt8)))])
            else
              none
          else
            none
        else
          none
      else
        if decide (2 < (((List.length x0.1) : Nat) : Int)) = true then
          if ((IntKind.wrap .i64 ((((BitVec.ofInt 64 (List.getD x0.1 2 0) &&& BitVec.ofInt 64 (1)).toNat : Nat) : Int))) == (1)) = true then
            if pickPre x0.2 (2) = true then
              if decide (0 ≤ (withinI (pickG x0.2 (2)) (0) (7))) = true then
                if decide ((withinI (pickG x0.2 (2)) (0) (7)) < 8) = true then
                  some ([(([99] : List UInt8), (List.getD [([120] : List UInt8), ([121] : List UInt8), ([120, 121] : List UInt8), ([49] : List UInt8), ([34] : List UInt8), ([92] : List UInt8), ([123, 125] : List UInt8), ([122, 32, 122] : List UInt8)] (Int.toNat (withinI (pickG x0.2 (2)) (0) (7))) ([] : List UInt8)))])
                else
                  none
              else
                none
            else
              none
          else
            some (([] : List ((List UInt8) × (List UInt8))))
        else
          some (([] : List ((List UInt8) × (List UInt8))))
    else
      if decide (2 < (((List.length x0.1) : Nat) : Int)) = true then
        if ((IntKind.wrap .i64 ((((BitVec.ofInt 64 (List.getD x0.1 2 0) &&& BitVec.ofInt 64 (1)).toNat : Nat) : Int))) == (1)) = true then
          if pickPre x0.2 (2) = true then
            if decide (0 ≤ (withinI (pickG x0.2 (2)) (0) (7))) = true then
              if decide ((withinI (pickG x0.2 (2)) (0) (7)) < 8) = true then
                some ([(([99] : List UInt8), (List.getD [([120] : List UInt8), ([121] : List UInt8), ([120, 121] : List UInt8), ([49] : List UInt8), ([34] : List UInt8), ([92] : List UInt8), ([123, 125] : List UInt8), ([122, 32, 122] : List UInt8)] (Int.toNat (withinI (pickG x0.2 (2)) (0) (7))) ([] : List UInt8)))])
              else
                none
            else
              none
          else
            none
        else
          some (([] : List ((List UInt8) × (List UInt8))))
      else
        some (([] : List ((List UInt8) × (List UInt8))))
@[reducible] def p15_k1 (x0 : (List Int) × (List Int)) := (List.getD [([120] : List UInt8), ([121] : List UInt8), ([120, 121] : List UInt8), ([49] : List UInt8), ([34] : List UInt8), ([92] : List UInt8), ([123, 125] : List UInt8), ([122, 32, 122] : List UInt8)] (Int.toNat (withinI (pickG x0.2 (0)) (0) (7))) ([] : List UInt8))
@[reducible] def p15_k2 (x0 : (List Int) × (List Int)) := (List.getD [([120] : List UInt8), ([121] : List UInt8), ([120, 121] : List UInt8), ([49] : List UInt8), ([34] : List UInt8), ([92] : List UInt8), ([123, 125] : List UInt8), ([122, 32, 122] : List UInt8)] (Int.toNat (withinI (pickG x0.2 (1)) (0) (7))) ([] : List UInt8))
@[reducible] def p15_k3 (x0 : (List Int) × (List Int)) := (List.getD [([120] : List UInt8), ([121] : List UInt8), ([120, 121] : List UInt8), ([49] : List UInt8), ([34] : List UInt8), ([92] : List UInt8), ([123, 125] : List UInt8), ([122, 32, 122] : List UInt8)] (Int.toNat (withinI (pickG x0.2 (2)) (0) (7))) ([] : List UInt8))
@[reducible] def p15_e1  := [([120] : List UInt8), ([121] : List UInt8), ([120, 121] : List UInt8), ([49] : List UInt8), ([34] : List UInt8), ([92] : List UInt8), ([123, 125] : List UInt8), ([122, 32, 122] : List UInt8)]
@[reducible] def p15_e2  : Env := [.top, (.ptr 0 0), .top, (.sr 1 0 3 2 none), (.d (.sl .str p15_e1)), .top, .top, .top, .top, (.d (.sl .str [([97] : List UInt8), ([98] : List UInt8), ([99] : List UInt8)])), (.d (.int .i64 (3))), (.d (.int .i64 (3))), (.d (.bool false)), .top, .top, .top, .top, .top, .top, .top, .top, .top, .top, .top, .top, .top, .top, .top, .top, .top, .top, .top, .top, .top, .top, .top, .top, .top, .top, .top, .top, .top, .top, .top, .top, .top, .top, .top]
@[reducible] def p15_e3  : Env := [.top, (.ptr 0 0), .top, (.sr 1 0 2 2 none), (.d (.sl .str p15_e1)), .top, .top, .top, .top, (.d (.sl .str [([97] : List UInt8), ([98] : List UInt8), ([99] : List UInt8)])), (.d (.int .i64 (3))), (.d (.int .i64 (3))), (.d (.bool false)), .top, .top, .top, .top, .top, .top, .top, .top, .top, .top, .top, .top, .top, .top, .top, .top, .top, .top, .top, .top, .top, .top, .top, .top, .top, .top, .top, .top, .top, .top, .top, .top, .top, .top, .top]
@[reducible] def p15_e4  : Env := [.top, (.ptr 0 0), .top, (.sr 1 0 1 2 none), (.d (.sl .str p15_e1)), .top, .top, .top, .top, (.d (.sl .str [([97] : List UInt8), ([98] : List UInt8), ([99] : List UInt8)])), (.d (.int .i64 (3))), (.d (.int .i64 (3))), (.d (.bool false)), .top, .top, .top, .top, .top, .top, .top, .top, .top, .top, .top, .top, .top, .top, .top, .top, .top, .top, .top, .top, .top, .top, .top, .top, .top, .top, .top, .top, .top, .top, .top, .top, .top, .top, .top]
@[reducible] def p15_e5  : Env := [.top, (.ptr 0 0), .top, (.sr 1 0 0 2 none), (.d (.sl .str p15_e1)), .top, .top, .top, .top, (.d (.sl .str [([97] : List UInt8), ([98] : List UInt8), ([99] : List UInt8)])), (.d (.int .i64 (3))), (.d (.int .i64 (3))), (.d (.bool false)), .top, .top, .top, .top, .top, .top, .top, .top, .top, .top, .top, .top, .top, .top, .top, .top, .top, .top, .top, .top, .top, .top, .top, .top, .top, .top, .top, .top, .top, .top, .top, .top, .top, .top, .top]
@[reducible] def p15_e6  : Env := [.top, (.ptr 0 0), .top, (.sr 1 0 0 2 none), (.d (.sl .str p15_e1)), .top, .top, .top, .top, (.d (.sl .str [([97] : List UInt8), ([98] : List UInt8), ([99] : List UInt8)])), (.d (.int .i64 (3))), (.d (.int .i64 (0))), .top, .top, .top, .top, .top, .top, .top, .top, .top, .top, .top, .top, .top, .top, .top, .top, .top, .top, .top, .top, .top, .top, .top, .top, .top, .top, .top, .top, .top, .top, .top, .top, .top, .top, .top, .top]
@[reducible] def p15_e7  : Env := [.top, (.ptr 0 0), .top, (.sr 1 0 3 2 none), (.d (.sl .str p15_e1)), .top, .top, .top, .top, (.d (.sl .str [([97] : List UInt8), ([98] : List UInt8), ([99] : List UInt8)])), (.d (.int .i64 (3))), (.d (.int .i64 (3))), .top, .top, .top, .top, .top, .top, .top, .top, .top, .top, .top, .top, .top, .top, .top, .top, .top, .top, .top, .top, .top, .top, .top, .top, .top, .top, .top, .top, .top, .top, .top, .top, .top, .top, .top, .top]
@[reducible] def p15_e8  : Env := [.top, (.ptr 0 0), .top, (.sr 1 0 2 2 none), (.d (.sl .str p15_e1)), .top, .top, .top, .top, (.d (.sl .str [([97] : List UInt8), ([98] : List UInt8), ([99] : List UInt8)])), (.d (.int .i64 (3))), (.d (.int .i64 (2))), .top, .top, .top, .top, .top, .top, .top, .top, .top, .top, .top, .top, .top, .top, .top, .top, .top, .top, .top, .top, .top, .top, .top, .top, .top, .top, .top, .top, .top, .top, .top, .top, .top, .top, .top, .top]
@[reducible] def p15_e9  : Env := [.top, (.ptr 0 0), .top, (.sr 1 0 1 2 none), (.d (.sl .str p15_e1)), .top, .top, .top, .top, (.d (.sl .str [([97] : List UInt8), ([98] : List UInt8), ([99] : List UInt8)])), (.d (.int .i64 (3))), (.d (.int .i64 (1))), .top, .top, .top, .top, .top, .top, .top, .top, .top, .top, .top, .top, .top, .top, .top, .top, .top, .top, .top, .top, .top, .top, .top, .top, .top, .top, .top, .top, .top, .top, .top, .top, .top, .top, .top, .top]
@[reducible] def p15_e10  : Env := [.top, (.ptr 0 0), .top, (.sr 1 0 2 2 none), (.d (.sl .str p15_e1)), .top, .top, .top, .top, (.d (.sl .str [([97] : List UInt8), ([98] : List UInt8), ([99] : List UInt8)])), (.d (.int .i64 (3))), (.d (.int .i64 (3))), .top, .top, .top, .top, .top, .top, .top, .top, .top, .top, .top, .top, .top, .top, .top, .top, .top, .top, .top, .top, .top, .top, .top, .top, .top, .top, .top, .top, .top, .top, .top, .top, .top, .top, .top, .top]
@[reducible] def p15_e11  : Env := [.top, (.ptr 0 0), .top, (.sr 1 0 1 2 none), (.d (.sl .str p15_e1)), .top, .top, .top, .top, (.d (.sl .str [([97] : List UInt8), ([98] : List UInt8), ([99] : List UInt8)])), (.d (.int .i64 (3))), (.d (.int .i64 (2))), .top, .top, .top, .top, .top, .top, .top, .top, .top, .top, .top, .top, .top, .top, .top, .top, .top, .top, .top, .top, .top, .top, .top, .top, .top, .top, .top, .top, .top, .top, .top, .top, .top, .top, .top, .top]
@[reducible] def p15_e12  : Env := [.top, (.ptr 0 0), .top, (.sr 1 0 1 2 none), (.d (.sl .str p15_e1)), .top, .top, .top, .top, (.d (.sl .str [([97] : List UInt8), ([98] : List UInt8), ([99] : List UInt8)])), (.d (.int .i64 (3))), (.d (.int .i64 (3))), .top, .top, .top, .top, .top, .top, .top, .top, .top, .top, .top, .top, .top, .top, .top, .top, .top, .top, .top, .top, .top, .top, .top, .top, .top, .top, .top, .top, .top, .top, .top, .top, .top, .top, .top, .top]
@[reducible] def p15_e13  : Env := [.top, (.ptr 0 0), .top, (.sr 1 0 0 2 none), (.d (.sl .str p15_e1)), .top, .top, .top, .top, (.d (.sl .str [([97] : List UInt8), ([98] : List UInt8), ([99] : List UInt8)])), (.d (.int .i64 (3))), (.d (.int .i64 (1))), .top, .top, .top, .top, .top, .top, .top, .top, .top, .top, .top, .top, .top, .top, .top, .top, .top, .top, .top, .top, .top, .top, .top, .top, .top, .top, .top, .top, .top, .top, .top, .top, .top, .top, .top, .top]
@[reducible] def p15_e14  : Env := [.top, (.ptr 0 0), .top, (.sr 1 0 0 2 none), (.d (.sl .str p15_e1)), .top, .top, .top, .top, (.d (.sl .str [([97] : List UInt8), ([98] : List UInt8), ([99] : List UInt8)])), (.d (.int .i64 (3))), (.d (.int .i64 (2))), .top, .top, .top, .top, .top, .top, .top, .top, .top, .top, .top, .top, .top, .top, .top, .top, .top, .top, .top, .top, .top, .top, .top, .top, .top, .top, .top, .top, .top, .top, .top, .top, .top, .top, .top, .top]
@[reducible] def p15_e15  : Env := [.top, (.ptr 0 0), .top, (.sr 1 0 0 2 none), (.d (.sl .str p15_e1)), .top, .top, .top, .top, (.d (.sl .str [([97] : List UInt8), ([98] : List UInt8), ([99] : List UInt8)])), (.d (.int .i64 (3))), (.d (.int .i64 (3))), .top, .top, .top, .top, .top, .top, .top, .top, .top, .top, .top, .top, .top, .top, .top, .top, .top, .top, .top, .top, .top, .top, .top, .top, .top, .top, .top, .top, .top, .top, .top, .top, .top, .top, .top, .top]
set_option maxHeartbeats 20000000 in
theorem p15_ok (m : Nat) (x0 : (List Int) × (List Int)) (q : (List ((List UInt8) × (List UInt8)))) (h : p15 m x0 = some q) : ∃ r B1, (evCall F S4 (m + 25) 15 [(.agg [(.d (.sl (.int .i64) x0.1)), (.d (.sl (.int .i64) x0.2))])] []).run = some (r, B1) ∧ 0 ≤ B1.length ∧ wkR B1 [] r (.d (.sl (.pair .str .str) q)) ∧ wkBs B1 [] 0 [] := by
  unfold p15 at h
  refine ite_cases h (fun c6 h => ?_) (fun c6 h => ?_)
  · skip
    refine ite_cases h (fun c16 h => ?_) (fun c16 h => ?_)
    · skip
      refine ite_cases h (fun c17 h => ?_) (fun c17 h => ?_)
      · skip
        refine ite_cases h (fun c19 h => ?_) (fun c19 h => ?_)
        · skip
          refine ite_cases h (fun c20 h => ?_) (fun c20 h => ?_)
          · skip
            refine ite_cases h (fun c27 h => ?_) (fun c27 h => ?_)
            · skip
              refine ite_cases h (fun c37 h => ?_) (fun c37 h => ?_)
              · skip
                refine ite_cases h (fun c38 h => ?_) (fun c38 h => ?_)
                · skip
                  refine ite_cases h (fun c40 h => ?_) (fun c40 h => ?_)
                  · skip
                    refine ite_cases h (fun c41 h => ?_) (fun c41 h => ?_)
                    · skip
                      refine ite_cases h (fun c48 h => ?_) (fun c48 h => ?_)
                      · skip
                        refine ite_cases h (fun c58 h => ?_) (fun c58 h => ?_)
                        · skip
                          refine ite_cases h (fun c59 h => ?_) (fun c59 h => ?_)
                          · skip
                            refine ite_cases h (fun c61 h => ?_) (fun c61 h => ?_)
                            · skip
                              refine ite_cases h (fun c62 h => ?_) (fun c62 h => ?_)
                              · skip
                                cases h
                                refine ⟨(.d (.sl (.pair .str .str) [(([97] : List UInt8), (p15_k1 x0)), (([98] : List UInt8), (p15_k2 x0)), (([99] : List UInt8), (p15_k3 x0))])), [], runT_ok (LS := (fun k => if k = 3610 then some (.exit 0, p15_e2, [(.cells [(.d (.sl (.int .i64) x0.1)), (.d (.sl (.int .i64) x0.2))]), (.arr (.pair .str .str) [(([97] : List UInt8), (p15_k1 x0)), (([98] : List UInt8), (p15_k2 x0)), (([99] : List UInt8), (p15_k3 x0))] true)]) else none)) (fn := fn15) (vis := [(3610, p15_e6, [(.cells [(.d (.sl (.int .i64) x0.1)), (.d (.sl (.int .i64) x0.2))]), (.arr (.pair .str .str) ([] : List ((List UInt8) × (List UInt8))) true)])]) (by kernel_rfl) rfl (by kernel_rfl) (M.run_of_path _ [true, true, true, true] _ _ (by kernel_rfl) (all_t rfl (all_t rfl (all_t rfl (all_t rfl all_nil))))) ?_, by simp, (wkR.one (wkV.one (wk1.eq rfl))), trivial⟩
                                intro p hp p2 hq
                                rcases List.mem_cons.1 hp with rfl | hp
                                · skip
                                  have ht3 : (turn (hds 15 3610) 0 3610 (evC byref (evCall F S4 (m + 24)) (m + 24) 0 (hds 15) lbu15_0) p15_e7 [(.cells [(.d (.sl (.int .i64) x0.1)), (.d (.sl (.int .i64) x0.2))]), (.arr (.pair .str .str) [(([97] : List UInt8), (p15_k1 x0)), (([98] : List UInt8), (p15_k2 x0)), (([99] : List UInt8), (p15_k3 x0))] true)]).run = some (.exit 0, p15_e2, [(.cells [(.d (.sl (.int .i64) x0.1)), (.d (.sl (.int .i64) x0.2))]), (.arr (.pair .str .str) [(([97] : List UInt8), (p15_k1 x0)), (([98] : List UInt8), (p15_k2 x0)), (([99] : List UInt8), (p15_k3 x0))] true)]) := M.run_of_path _ [false] _ _ (by kernel_rfl) (all_f Bool.false_ne_true all_nil)
                                  have hp3 := turns_last (n := m + 20) (by simp) ht3
                                  have ht2 : (turn (hds 15 3610) 0 3610 (evC byref (evCall F S4 (m + 24)) (m + 24) 0 (hds 15) lbu15_0) p15_e8 [(.cells [(.d (.sl (.int .i64) x0.1)), (.d (.sl (.int .i64) x0.2))]), (.arr (.pair .str .str) [(([97] : List UInt8), (p15_k1 x0)), (([98] : List UInt8), (p15_k2 x0))] true)]).run = some (.normal, p15_e7, [(.cells [(.d (.sl (.int .i64) x0.1)), (.d (.sl (.int .i64) x0.2))]), (.arr (.pair .str .str) [(([97] : List UInt8), (p15_k1 x0)), (([98] : List UInt8), (p15_k2 x0)), (([99] : List UInt8), (p15_k3 x0))] true)]) := M.run_of_path _ [true, true, true, true, true, true, true, true, true, true, true, true, true, true, true, true, true, true, true, true, true] _ _ (by kernel_rfl) (all_t rfl (all_t rfl (all_t rfl (all_t c48 (all_t c48 (all_t c48 (all_t c48 (all_t rfl (all_t c48 (all_t c48 (all_t c48 (all_t c48 (all_t c48 (all_t c58 (all_t c59 (all_t rfl (all_t c61 (all_t c62 (all_t rfl (all_t rfl (all_t rfl all_nil)))))))))))))))))))))
                                  have hs2 : (turns (hds 15 3610) 0 3610 (evC byref (evCall F S4 (m + 24)) (m + 24) 0 (hds 15) lbu15_0) (m + 21) p15_e7 [(.cells [(.d (.sl (.int .i64) x0.1)), (.d (.sl (.int .i64) x0.2))]), (.arr (.pair .str .str) [(([97] : List UInt8), (p15_k1 x0)), (([98] : List UInt8), (p15_k2 x0)), (([99] : List UInt8), (p15_k3 x0))] true)]).run = some (.exit 0, p15_e2, [(.cells [(.d (.sl (.int .i64) x0.1)), (.d (.sl (.int .i64) x0.2))]), (.arr (.pair .str .str) [(([97] : List UInt8), (p15_k1 x0)), (([98] : List UInt8), (p15_k2 x0)), (([99] : List UInt8), (p15_k3 x0))] true)]) := Eq.mp (by kernel_rfl) hp3
                                  have hp2 := turns_step ht2 hs2
                                  have ht1 : (turn (hds 15 3610) 0 3610 (evC byref (evCall F S4 (m + 24)) (m + 24) 0 (hds 15) lbu15_0) p15_e9 [(.cells [(.d (.sl (.int .i64) x0.1)), (.d (.sl (.int .i64) x0.2))]), (.arr (.pair .str .str) [(([97] : List UInt8), (p15_k1 x0))] true)]).run = some (.normal, p15_e8, [(.cells [(.d (.sl (.int .i64) x0.1)), (.d (.sl (.int .i64) x0.2))]), (.arr (.pair .str .str) [(([97] : List UInt8), (p15_k1 x0)), (([98] : List UInt8), (p15_k2 x0))] true)]) := M.run_of_path _ [true, true, true, true, true, true, true, true, true, true, true, true, true, true, true, true, true, true, true, true, true] _ _ (by kernel_rfl) (all_t rfl (all_t rfl (all_t rfl (all_t c27 (all_t c27 (all_t c27 (all_t c27 (all_t rfl (all_t c27 (all_t c27 (all_t c27 (all_t c27 (all_t c27 (all_t c37 (all_t c38 (all_t rfl (all_t c40 (all_t c41 (all_t rfl (all_t rfl (all_t rfl all_nil)))))))))))))))))))))
                                  have hs1 : (turns (hds 15 3610) 0 3610 (evC byref (evCall F S4 (m + 24)) (m + 24) 0 (hds 15) lbu15_0) (m + 22) p15_e8 [(.cells [(.d (.sl (.int .i64) x0.1)), (.d (.sl (.int .i64) x0.2))]), (.arr (.pair .str .str) [(([97] : List UInt8), (p15_k1 x0)), (([98] : List UInt8), (p15_k2 x0))] true)]).run = some (.exit 0, p15_e2, [(.cells [(.d (.sl (.int .i64) x0.1)), (.d (.sl (.int .i64) x0.2))]), (.arr (.pair .str .str) [(([97] : List UInt8), (p15_k1 x0)), (([98] : List UInt8), (p15_k2 x0)), (([99] : List UInt8), (p15_k3 x0))] true)]) := Eq.mp (by kernel_rfl) hp2
                                  have hp1 := turns_step ht1 hs1
                                  have ht0 : (turn (hds 15 3610) 0 3610 (evC byref (evCall F S4 (m + 24)) (m + 24) 0 (hds 15) lbu15_0) p15_e6 [(.cells [(.d (.sl (.int .i64) x0.1)), (.d (.sl (.int .i64) x0.2))]), (.arr (.pair .str .str) ([] : List ((List UInt8) × (List UInt8))) true)]).run = some (.normal, p15_e9, [(.cells [(.d (.sl (.int .i64) x0.1)), (.d (.sl (.int .i64) x0.2))]), (.arr (.pair .str .str) [(([97] : List UInt8), (p15_k1 x0))] true)]) := M.run_of_path _ [true, true, true, true, true, true, true, true, true, true, true, true, true, true, true, true, true, true, true, true, true] _ _ (by kernel_rfl) (all_t rfl (all_t rfl (all_t rfl (all_t c6 (all_t c6 (all_t c6 (all_t c6 (all_t rfl (all_t c6 (all_t c6 (all_t c6 (all_t c6 (all_t c6 (all_t c16 (all_t c17 (all_t rfl (all_t c19 (all_t c20 (all_t rfl (all_t rfl (all_t rfl all_nil)))))))))))))))))))))
                                  have hs0 : (turns (hds 15 3610) 0 3610 (evC byref (evCall F S4 (m + 24)) (m + 24) 0 (hds 15) lbu15_0) (m + 23) p15_e9 [(.cells [(.d (.sl (.int .i64) x0.1)), (.d (.sl (.int .i64) x0.2))]), (.arr (.pair .str .str) [(([97] : List UInt8), (p15_k1 x0))] true)]).run = some (.exit 0, p15_e2, [(.cells [(.d (.sl (.int .i64) x0.1)), (.d (.sl (.int .i64) x0.2))]), (.arr (.pair .str .str) [(([97] : List UInt8), (p15_k1 x0)), (([98] : List UInt8), (p15_k2 x0)), (([99] : List UInt8), (p15_k3 x0))] true)]) := Eq.mp (by kernel_rfl) hp1
                                  have hp0 := turns_step ht0 hs0
                                  exact Eq.trans (Eq.mp (by kernel_rfl) hp0) hq
                                cases hp
                              · skip
                                cases h
                            · skip
                              cases h
                          · skip
                            cases h
                        · skip
                          cases h
                          refine ⟨(.d (.sl (.pair .str .str) [(([97] : List UInt8), (p15_k1 x0)), (([98] : List UInt8), (p15_k2 x0))])), [], runT_ok (LS := (fun k => if k = 3610 then some (.exit 0, p15_e3, [(.cells [(.d (.sl (.int .i64) x0.1)), (.d (.sl (.int .i64) x0.2))]), (.arr (.pair .str .str) [(([97] : List UInt8), (p15_k1 x0)), (([98] : List UInt8), (p15_k2 x0))] true)]) else none)) (fn := fn15) (vis := [(3610, p15_e6, [(.cells [(.d (.sl (.int .i64) x0.1)), (.d (.sl (.int .i64) x0.2))]), (.arr (.pair .str .str) ([] : List ((List UInt8) × (List UInt8))) true)])]) (by kernel_rfl) rfl (by kernel_rfl) (M.run_of_path _ [true, true, true, true] _ _ (by kernel_rfl) (all_t rfl (all_t rfl (all_t rfl (all_t rfl all_nil))))) ?_, by simp, (wkR.one (wkV.one (wk1.eq rfl))), trivial⟩
                          intro p hp p2 hq
                          rcases List.mem_cons.1 hp with rfl | hp
                          · skip
                            have ht3 : (turn (hds 15 3610) 0 3610 (evC byref (evCall F S4 (m + 24)) (m + 24) 0 (hds 15) lbu15_0) p15_e10 [(.cells [(.d (.sl (.int .i64) x0.1)), (.d (.sl (.int .i64) x0.2))]), (.arr (.pair .str .str) [(([97] : List UInt8), (p15_k1 x0)), (([98] : List UInt8), (p15_k2 x0))] true)]).run = some (.exit 0, p15_e3, [(.cells [(.d (.sl (.int .i64) x0.1)), (.d (.sl (.int .i64) x0.2))]), (.arr (.pair .str .str) [(([97] : List UInt8), (p15_k1 x0)), (([98] : List UInt8), (p15_k2 x0))] true)]) := M.run_of_path _ [false] _ _ (by kernel_rfl) (all_f Bool.false_ne_true all_nil)
                            have hp3 := turns_last (n := m + 20) (by simp) ht3
                            have ht2 : (turn (hds 15 3610) 0 3610 (evC byref (evCall F S4 (m + 24)) (m + 24) 0 (hds 15) lbu15_0) p15_e8 [(.cells [(.d (.sl (.int .i64) x0.1)), (.d (.sl (.int .i64) x0.2))]), (.arr (.pair .str .str) [(([97] : List UInt8), (p15_k1 x0)), (([98] : List UInt8), (p15_k2 x0))] true)]).run = some (.normal, p15_e10, [(.cells [(.d (.sl (.int .i64) x0.1)), (.d (.sl (.int .i64) x0.2))]), (.arr (.pair .str .str) [(([97] : List UInt8), (p15_k1 x0)), (([98] : List UInt8), (p15_k2 x0))] true)]) := M.run_of_path _ [true, true, true, true, true, true, true, true, true, true, true, true, true, false] _ _ (by kernel_rfl) (all_t rfl (all_t rfl (all_t rfl (all_t c48 (all_t c48 (all_t c48 (all_t c48 (all_t rfl (all_t c48 (all_t c48 (all_t c48 (all_t c48 (all_t c48 (all_f c58 all_nil))))))))))))))
                            have hs2 : (turns (hds 15 3610) 0 3610 (evC byref (evCall F S4 (m + 24)) (m + 24) 0 (hds 15) lbu15_0) (m + 21) p15_e10 [(.cells [(.d (.sl (.int .i64) x0.1)), (.d (.sl (.int .i64) x0.2))]), (.arr (.pair .str .str) [(([97] : List UInt8), (p15_k1 x0)), (([98] : List UInt8), (p15_k2 x0))] true)]).run = some (.exit 0, p15_e3, [(.cells [(.d (.sl (.int .i64) x0.1)), (.d (.sl (.int .i64) x0.2))]), (.arr (.pair .str .str) [(([97] : List UInt8), (p15_k1 x0)), (([98] : List UInt8), (p15_k2 x0))] true)]) := Eq.mp (by kernel_rfl) hp3
                            have hp2 := turns_step ht2 hs2
                            have ht1 : (turn (hds 15 3610) 0 3610 (evC byref (evCall F S4 (m + 24)) (m + 24) 0 (hds 15) lbu15_0) p15_e9 [(.cells [(.d (.sl (.int .i64) x0.1)), (.d (.sl (.int .i64) x0.2))]), (.arr (.pair .str .str) [(([97] : List UInt8), (p15_k1 x0))] true)]).run = some (.normal, p15_e8, [(.cells [(.d (.sl (.int .i64) x0.1)), (.d (.sl (.int .i64) x0.2))]), (.arr (.pair .str .str) [(([97] : List UInt8), (p15_k1 x0)), (([98] : List UInt8), (p15_k2 x0))] true)]) := M.run_of_path _ [true, true, true, true, true, true, true, true, true, true, true, true, true, true, true, true, true, true, true, true, true] _ _ (by kernel_rfl) (all_t rfl (all_t rfl (all_t rfl (all_t c27 (all_t c27 (all_t c27 (all_t c27 (all_t rfl (all_t c27 (all_t c27 (all_t c27 (all_t c27 (all_t c27 (all_t c37 (all_t c38 (all_t rfl (all_t c40 (all_t c41 (all_t rfl (all_t rfl (all_t rfl all_nil)))))))))))))))))))))
                            have hs1 : (turns (hds 15 3610) 0 3610 (evC byref (evCall F S4 (m + 24)) (m + 24) 0 (hds 15) lbu15_0) (m + 22) p15_e8 [(.cells [(.d (.sl (.int .i64) x0.1)), (.d (.sl (.int .i64) x0.2))]), (.arr (.pair .str .str) [(([97] : List UInt8), (p15_k1 x0)), (([98] : List UInt8), (p15_k2 x0))] true)]).run = some (.exit 0, p15_e3, [(.cells [(.d (.sl (.int .i64) x0.1)), (.d (.sl (.int .i64) x0.2))]), (.arr (.pair .str .str) [(([97] : List UInt8), (p15_k1 x0)), (([98] : List UInt8), (p15_k2 x0))] true)]) := Eq.mp (by kernel_rfl) hp2
                            have hp1 := turns_step ht1 hs1
                            have ht0 : (turn (hds 15 3610) 0 3610 (evC byref (evCall F S4 (m + 24)) (m + 24) 0 (hds 15) lbu15_0) p15_e6 [(.cells [(.d (.sl (.int .i64) x0.1)), (.d (.sl (.int .i64) x0.2))]), (.arr (.pair .str .str) ([] : List ((List UInt8) × (List UInt8))) true)]).run = some (.normal, p15_e9, [(.cells [(.d (.sl (.int .i64) x0.1)), (.d (.sl (.int .i64) x0.2))]), (.arr (.pair .str .str) [(([97] : List UInt8), (p15_k1 x0))] true)]) := M.run_of_path _ [true, true, true, true, true, true, true, true, true, true, true, true, true, true, true, true, true, true, true, true, true] _ _ (by kernel_rfl) (all_t rfl (all_t rfl (all_t rfl (all_t c6 (all_t c6 (all_t c6 (all_t c6 (all_t rfl (all_t c6 (all_t c6 (all_t c6 (all_t c6 (all_t c6 (all_t c16 (all_t c17 (all_t rfl (all_t c19 (all_t c20 (all_t rfl (all_t rfl (all_t rfl all_nil)))))))))))))))))))))
                            have hs0 : (turns (hds 15 3610) 0 3610 (evC byref (evCall F S4 (m + 24)) (m + 24) 0 (hds 15) lbu15_0) (m + 23) p15_e9 [(.cells [(.d (.sl (.int .i64) x0.1)), (.d (.sl (.int .i64) x0.2))]), (.arr (.pair .str .str) [(([97] : List UInt8), (p15_k1 x0))] true)]).run = some (.exit 0, p15_e3, [(.cells [(.d (.sl (.int .i64) x0.1)), (.d (.sl (.int .i64) x0.2))]), (.arr (.pair .str .str) [(([97] : List UInt8), (p15_k1 x0)), (([98] : List UInt8), (p15_k2 x0))] true)]) := Eq.mp (by kernel_rfl) hp1
                            have hp0 := turns_step ht0 hs0
                            exact Eq.trans (Eq.mp (by kernel_rfl) hp0) hq
                          cases hp
                      · skip
                        cases h
                        refine ⟨(.d (.sl (.pair .str .str) [(([97] : List UInt8), (p15_k1 x0)), (([98] : List UInt8), (p15_k2 x0))])), [], runT_ok (LS := (fun k => if k = 3610 then some (.exit 0, p15_e3, [(.cells [(.d (.sl (.int .i64) x0.1)), (.d (.sl (.int .i64) x0.2))]), (.arr (.pair .str .str) [(([97] : List UInt8), (p15_k1 x0)), (([98] : List UInt8), (p15_k2 x0))] true)]) else none)) (fn := fn15) (vis := [(3610, p15_e6, [(.cells [(.d (.sl (.int .i64) x0.1)), (.d (.sl (.int .i64) x0.2))]), (.arr (.pair .str .str) ([] : List ((List UInt8) × (List UInt8))) true)])]) (by kernel_rfl) rfl (by kernel_rfl) (M.run_of_path _ [true, true, true, true] _ _ (by kernel_rfl) (all_t rfl (all_t rfl (all_t rfl (all_t rfl all_nil))))) ?_, by simp, (wkR.one (wkV.one (wk1.eq rfl))), trivial⟩
                        intro p hp p2 hq
                        rcases List.mem_cons.1 hp with rfl | hp
                        · skip
                          have ht3 : (turn (hds 15 3610) 0 3610 (evC byref (evCall F S4 (m + 24)) (m + 24) 0 (hds 15) lbu15_0) p15_e10 [(.cells [(.d (.sl (.int .i64) x0.1)), (.d (.sl (.int .i64) x0.2))]), (.arr (.pair .str .str) [(([97] : List UInt8), (p15_k1 x0)), (([98] : List UInt8), (p15_k2 x0))] true)]).run = some (.exit 0, p15_e3, [(.cells [(.d (.sl (.int .i64) x0.1)), (.d (.sl (.int .i64) x0.2))]), (.arr (.pair .str .str) [(([97] : List UInt8), (p15_k1 x0)), (([98] : List UInt8), (p15_k2 x0))] true)]) := M.run_of_path _ [false] _ _ (by kernel_rfl) (all_f Bool.false_ne_true all_nil)
                          have hp3 := turns_last (n := m + 20) (by simp) ht3
                          have ht2 : (turn (hds 15 3610) 0 3610 (evC byref (evCall F S4 (m + 24)) (m + 24) 0 (hds 15) lbu15_0) p15_e8 [(.cells [(.d (.sl (.int .i64) x0.1)), (.d (.sl (.int .i64) x0.2))]), (.arr (.pair .str .str) [(([97] : List UInt8), (p15_k1 x0)), (([98] : List UInt8), (p15_k2 x0))] true)]).run = some (.normal, p15_e10, [(.cells [(.d (.sl (.int .i64) x0.1)), (.d (.sl (.int .i64) x0.2))]), (.arr (.pair .str .str) [(([97] : List UInt8), (p15_k1 x0)), (([98] : List UInt8), (p15_k2 x0))] true)]) := M.run_of_path _ [true, true, true, false, false, false, false, false, false, false, false, false] _ _ (by kernel_rfl) (all_t rfl (all_t rfl (all_t rfl (all_f c48 (all_f c48 (all_f c48 (all_f c48 (all_f c48 (all_f c48 (all_f c48 (all_f c48 (all_f Bool.false_ne_true all_nil))))))))))))
                          have hs2 : (turns (hds 15 3610) 0 3610 (evC byref (evCall F S4 (m + 24)) (m + 24) 0 (hds 15) lbu15_0) (m + 21) p15_e10 [(.cells [(.d (.sl (.int .i64) x0.1)), (.d (.sl (.int .i64) x0.2))]), (.arr (.pair .str .str) [(([97] : List UInt8), (p15_k1 x0)), (([98] : List UInt8), (p15_k2 x0))] true)]).run = some (.exit 0, p15_e3, [(.cells [(.d (.sl (.int .i64) x0.1)), (.d (.sl (.int .i64) x0.2))]), (.arr (.pair .str .str) [(([97] : List UInt8), (p15_k1 x0)), (([98] : List UInt8), (p15_k2 x0))] true)]) := Eq.mp (by kernel_rfl) hp3
                          have hp2 := turns_step ht2 hs2
                          have ht1 : (turn (hds 15 3610) 0 3610 (evC byref (evCall F S4 (m + 24)) (m + 24) 0 (hds 15) lbu15_0) p15_e9 [(.cells [(.d (.sl (.int .i64) x0.1)), (.d (.sl (.int .i64) x0.2))]), (.arr (.pair .str .str) [(([97] : List UInt8), (p15_k1 x0))] true)]).run = some (.normal, p15_e8, [(.cells [(.d (.sl (.int .i64) x0.1)), (.d (.sl (.int .i64) x0.2))]), (.arr (.pair .str .str) [(([97] : List UInt8), (p15_k1 x0)), (([98] : List UInt8), (p15_k2 x0))] true)]) := M.run_of_path _ [true, true, true, true, true, true, true, true, true, true, true, true, true, true, true, true, true, true, true, true, true] _ _ (by kernel_rfl) (all_t rfl (all_t rfl (all_t rfl (all_t c27 (all_t c27 (all_t c27 (all_t c27 (all_t rfl (all_t c27 (all_t c27 (all_t c27 (all_t c27 (all_t c27 (all_t c37 (all_t c38 (all_t rfl (all_t c40 (all_t c41 (all_t rfl (all_t rfl (all_t rfl all_nil)))))))))))))))))))))
                          have hs1 : (turns (hds 15 3610) 0 3610 (evC byref (evCall F S4 (m + 24)) (m + 24) 0 (hds 15) lbu15_0) (m + 22) p15_e8 [(.cells [(.d (.sl (.int .i64) x0.1)), (.d (.sl (.int .i64) x0.2))]), (.arr (.pair .str .str) [(([97] : List UInt8), (p15_k1 x0)), (([98] : List UInt8), (p15_k2 x0))] true)]).run = some (.exit 0, p15_e3, [(.cells [(.d (.sl (.int .i64) x0.1)), (.d (.sl (.int .i64) x0.2))]), (.arr (.pair .str .str) [(([97] : List UInt8), (p15_k1 x0)), (([98] : List UInt8), (p15_k2 x0))] true)]) := Eq.mp (by kernel_rfl) hp2
                          have hp1 := turns_step ht1 hs1
                          have ht0 : (turn (hds 15 3610) 0 3610 (evC byref (evCall F S4 (m + 24)) (m + 24) 0 (hds 15) lbu15_0) p15_e6 [(.cells [(.d (.sl (.int .i64) x0.1)), (.d (.sl (.int .i64) x0.2))]), (.arr (.pair .str .str) ([] : List ((List UInt8) × (List UInt8))) true)]).run = some (.normal, p15_e9, [(.cells [(.d (.sl (.int .i64) x0.1)), (.d (.sl (.int .i64) x0.2))]), (.arr (.pair .str .str) [(([97] : List UInt8), (p15_k1 x0))] true)]) := M.run_of_path _ [true, true, true, true, true, true, true, true, true, true, true, true, true, true, true, true, true, true, true, true, true] _ _ (by kernel_rfl) (all_t rfl (all_t rfl (all_t rfl (all_t c6 (all_t c6 (all_t c6 (all_t c6 (all_t rfl (all_t c6 (all_t c6 (all_t c6 (all_t c6 (all_t c6 (all_t c16 (all_t c17 (all_t rfl (all_t c19 (all_t c20 (all_t rfl (all_t rfl (all_t rfl all_nil)))))))))))))))))))))
                          have hs0 : (turns (hds 15 3610) 0 3610 (evC byref (evCall F S4 (m + 24)) (m + 24) 0 (hds 15) lbu15_0) (m + 23) p15_e9 [(.cells [(.d (.sl (.int .i64) x0.1)), (.d (.sl (.int .i64) x0.2))]), (.arr (.pair .str .str) [(([97] : List UInt8), (p15_k1 x0))] true)]).run = some (.exit 0, p15_e3, [(.cells [(.d (.sl (.int .i64) x0.1)), (.d (.sl (.int .i64) x0.2))]), (.arr (.pair .str .str) [(([97] : List UInt8), (p15_k1 x0)), (([98] : List UInt8), (p15_k2 x0))] true)]) := Eq.mp (by kernel_rfl) hp1
                          have hp0 := turns_step ht0 hs0
                          exact Eq.trans (Eq.mp (by kernel_rfl) hp0) hq
                        cases hp
                    · skip
                      cases h
                  · skip
                    cases h
                · skip
                  cases h
              · skip
                refine ite_cases h (fun c41 h => ?_) (fun c41 h => ?_)
                · skip
                  refine ite_cases h (fun c51 h => ?_) (fun c51 h => ?_)
                  · skip
                    refine ite_cases h (fun c52 h => ?_) (fun c52 h => ?_)
                    · skip
                      refine ite_cases h (fun c54 h => ?_) (fun c54 h => ?_)
                      · skip
                        refine ite_cases h (fun c55 h => ?_) (fun c55 h => ?_)
                        · skip
                          cases h
                          refine ⟨(.d (.sl (.pair .str .str) [(([97] : List UInt8), (p15_k1 x0)), (([99] : List UInt8), (p15_k3 x0))])), [], runT_ok (LS := (fun k => if k = 3610 then some (.exit 0, p15_e3, [(.cells [(.d (.sl (.int .i64) x0.1)), (.d (.sl (.int .i64) x0.2))]), (.arr (.pair .str .str) [(([97] : List UInt8), (p15_k1 x0)), (([99] : List UInt8), (p15_k3 x0))] true)]) else none)) (fn := fn15) (vis := [(3610, p15_e6, [(.cells [(.d (.sl (.int .i64) x0.1)), (.d (.sl (.int .i64) x0.2))]), (.arr (.pair .str .str) ([] : List ((List UInt8) × (List UInt8))) true)])]) (by kernel_rfl) rfl (by kernel_rfl) (M.run_of_path _ [true, true, true, true] _ _ (by kernel_rfl) (all_t rfl (all_t rfl (all_t rfl (all_t rfl all_nil))))) ?_, by simp, (wkR.one (wkV.one (wk1.eq rfl))), trivial⟩
                          intro p hp p2 hq
                          rcases List.mem_cons.1 hp with rfl | hp
                          · skip
                            have ht3 : (turn (hds 15 3610) 0 3610 (evC byref (evCall F S4 (m + 24)) (m + 24) 0 (hds 15) lbu15_0) p15_e10 [(.cells [(.d (.sl (.int .i64) x0.1)), (.d (.sl (.int .i64) x0.2))]), (.arr (.pair .str .str) [(([97] : List UInt8), (p15_k1 x0)), (([99] : List UInt8), (p15_k3 x0))] true)]).run = some (.exit 0, p15_e3, [(.cells [(.d (.sl (.int .i64) x0.1)), (.d (.sl (.int .i64) x0.2))]), (.arr (.pair .str .str) [(([97] : List UInt8), (p15_k1 x0)), (([99] : List UInt8), (p15_k3 x0))] true)]) := M.run_of_path _ [false] _ _ (by kernel_rfl) (all_f Bool.false_ne_true all_nil)
                            have hp3 := turns_last (n := m + 20) (by simp) ht3
                            have ht2 : (turn (hds 15 3610) 0 3610 (evC byref (evCall F S4 (m + 24)) (m + 24) 0 (hds 15) lbu15_0) p15_e11 [(.cells [(.d (.sl (.int .i64) x0.1)), (.d (.sl (.int .i64) x0.2))]), (.arr (.pair .str .str) [(([97] : List UInt8), (p15_k1 x0))] true)]).run = some (.normal, p15_e10, [(.cells [(.d (.sl (.int .i64) x0.1)), (.d (.sl (.int .i64) x0.2))]), (.arr (.pair .str .str) [(([97] : List UInt8), (p15_k1 x0)), (([99] : List UInt8), (p15_k3 x0))] true)]) := M.run_of_path _ [true, true, true, true, true, true, true, true, true, true, true, true, true, true, true, true, true, true, true, true, true] _ _ (by kernel_rfl) (all_t rfl (all_t rfl (all_t rfl (all_t c41 (all_t c41 (all_t c41 (all_t c41 (all_t rfl (all_t c41 (all_t c41 (all_t c41 (all_t c41 (all_t c41 (all_t c51 (all_t c52 (all_t rfl (all_t c54 (all_t c55 (all_t rfl (all_t rfl (all_t rfl all_nil)))))))))))))))))))))
                            have hs2 : (turns (hds 15 3610) 0 3610 (evC byref (evCall F S4 (m + 24)) (m + 24) 0 (hds 15) lbu15_0) (m + 21) p15_e10 [(.cells [(.d (.sl (.int .i64) x0.1)), (.d (.sl (.int .i64) x0.2))]), (.arr (.pair .str .str) [(([97] : List UInt8), (p15_k1 x0)), (([99] : List UInt8), (p15_k3 x0))] true)]).run = some (.exit 0, p15_e3, [(.cells [(.d (.sl (.int .i64) x0.1)), (.d (.sl (.int .i64) x0.2))]), (.arr (.pair .str .str) [(([97] : List UInt8), (p15_k1 x0)), (([99] : List UInt8), (p15_k3 x0))] true)]) := Eq.mp (by kernel_rfl) hp3
                            have hp2 := turns_step ht2 hs2
                            have ht1 : (turn (hds 15 3610) 0 3610 (evC byref (evCall F S4 (m + 24)) (m + 24) 0 (hds 15) lbu15_0) p15_e9 [(.cells [(.d (.sl (.int .i64) x0.1)), (.d (.sl (.int .i64) x0.2))]), (.arr (.pair .str .str) [(([97] : List UInt8), (p15_k1 x0))] true)]).run = some (.normal, p15_e11, [(.cells [(.d (.sl (.int .i64) x0.1)), (.d (.sl (.int .i64) x0.2))]), (.arr (.pair .str .str) [(([97] : List UInt8), (p15_k1 x0))] true)]) := M.run_of_path _ [true, true, true, true, true, true, true, true, true, true, true, true, true, false] _ _ (by kernel_rfl) (all_t rfl (all_t rfl (all_t rfl (all_t c27 (all_t c27 (all_t c27 (all_t c27 (all_t rfl (all_t c27 (all_t c27 (all_t c27 (all_t c27 (all_t c27 (all_f c37 all_nil))))))))))))))
                            have hs1 : (turns (hds 15 3610) 0 3610 (evC byref (evCall F S4 (m + 24)) (m + 24) 0 (hds 15) lbu15_0) (m + 22) p15_e11 [(.cells [(.d (.sl (.int .i64) x0.1)), (.d (.sl (.int .i64) x0.2))]), (.arr (.pair .str .str) [(([97] : List UInt8), (p15_k1 x0))] true)]).run = some (.exit 0, p15_e3, [(.cells [(.d (.sl (.int .i64) x0.1)), (.d (.sl (.int .i64) x0.2))]), (.arr (.pair .str .str) [(([97] : List UInt8), (p15_k1 x0)), (([99] : List UInt8), (p15_k3 x0))] true)]) := Eq.mp (by kernel_rfl) hp2
                            have hp1 := turns_step ht1 hs1
                            have ht0 : (turn (hds 15 3610) 0 3610 (evC byref (evCall F S4 (m + 24)) (m + 24) 0 (hds 15) lbu15_0) p15_e6 [(.cells [(.d (.sl (.int .i64) x0.1)), (.d (.sl (.int .i64) x0.2))]), (.arr (.pair .str .str) ([] : List ((List UInt8) × (List UInt8))) true)]).run = some (.normal, p15_e9, [(.cells [(.d (.sl (.int .i64) x0.1)), (.d (.sl (.int .i64) x0.2))]), (.arr (.pair .str .str) [(([97] : List UInt8), (p15_k1 x0))] true)]) := M.run_of_path _ [true, true, true, true, true, true, true, true, true, true, true, true, true, true, true, true, true, true, true, true, true] _ _ (by kernel_rfl) (all_t rfl (all_t rfl (all_t rfl (all_t c6 (all_t c6 (all_t c6 (all_t c6 (all_t rfl (all_t c6 (all_t c6 (all_t c6 (all_t c6 (all_t c6 (all_t c16 (all_t c17 (all_t rfl (all_t c19 (all_t c20 (all_t rfl (all_t rfl (all_t rfl all_nil)))))))))))))))))))))
                            have hs0 : (turns (hds 15 3610) 0 3610 (evC byref (evCall F S4 (m + 24)) (m + 24) 0 (hds 15) lbu15_0) (m + 23) p15_e9 [(.cells [(.d (.sl (.int .i64) x0.1)), (.d (.sl (.int .i64) x0.2))]), (.arr (.pair .str .str) [(([97] : List UInt8), (p15_k1 x0))] true)]).run = some (.exit 0, p15_e3, [(.cells [(.d (.sl (.int .i64) x0.1)), (.d (.sl (.int .i64) x0.2))]), (.arr (.pair .str .str) [(([97] : List UInt8), (p15_k1 x0)), (([99] : List UInt8), (p15_k3 x0))] true)]) := Eq.mp (by kernel_rfl) hp1
                            have hp0 := turns_step ht0 hs0
                            exact Eq.trans (Eq.mp (by kernel_rfl) hp0) hq
                          cases hp
                        · skip
                          cases h
                      · skip
                        cases h
                    · skip
                      cases h
                  · skip
                    cases h
                    refine ⟨(.d (.sl (.pair .str .str) [(([97] : List UInt8), (p15_k1 x0))])), [], runT_ok (LS := (fun k => if k = 3610 then some (.exit 0, p15_e4, [(.cells [(.d (.sl (.int .i64) x0.1)), (.d (.sl (.int .i64) x0.2))]), (.arr (.pair .str .str) [(([97] : List UInt8), (p15_k1 x0))] true)]) else none)) (fn := fn15) (vis := [(3610, p15_e6, [(.cells [(.d (.sl (.int .i64) x0.1)), (.d (.sl (.int .i64) x0.2))]), (.arr (.pair .str .str) ([] : List ((List UInt8) × (List UInt8))) true)])]) (by kernel_rfl) rfl (by kernel_rfl) (M.run_of_path _ [true, true, true, true] _ _ (by kernel_rfl) (all_t rfl (all_t rfl (all_t rfl (all_t rfl all_nil))))) ?_, by simp, (wkR.one (wkV.one (wk1.eq rfl))), trivial⟩
                    intro p hp p2 hq
                    rcases List.mem_cons.1 hp with rfl | hp
                    · skip
                      have ht3 : (turn (hds 15 3610) 0 3610 (evC byref (evCall F S4 (m + 24)) (m + 24) 0 (hds 15) lbu15_0) p15_e12 [(.cells [(.d (.sl (.int .i64) x0.1)), (.d (.sl (.int .i64) x0.2))]), (.arr (.pair .str .str) [(([97] : List UInt8), (p15_k1 x0))] true)]).run = some (.exit 0, p15_e4, [(.cells [(.d (.sl (.int .i64) x0.1)), (.d (.sl (.int .i64) x0.2))]), (.arr (.pair .str .str) [(([97] : List UInt8), (p15_k1 x0))] true)]) := M.run_of_path _ [false] _ _ (by kernel_rfl) (all_f Bool.false_ne_true all_nil)
                      have hp3 := turns_last (n := m + 20) (by simp) ht3
                      have ht2 : (turn (hds 15 3610) 0 3610 (evC byref (evCall F S4 (m + 24)) (m + 24) 0 (hds 15) lbu15_0) p15_e11 [(.cells [(.d (.sl (.int .i64) x0.1)), (.d (.sl (.int .i64) x0.2))]), (.arr (.pair .str .str) [(([97] : List UInt8), (p15_k1 x0))] true)]).run = some (.normal, p15_e12, [(.cells [(.d (.sl (.int .i64) x0.1)), (.d (.sl (.int .i64) x0.2))]), (.arr (.pair .str .str) [(([97] : List UInt8), (p15_k1 x0))] true)]) := M.run_of_path _ [true, true, true, true, true, true, true, true, true, true, true, true, true, false] _ _ (by kernel_rfl) (all_t rfl (all_t rfl (all_t rfl (all_t c41 (all_t c41 (all_t c41 (all_t c41 (all_t rfl (all_t c41 (all_t c41 (all_t c41 (all_t c41 (all_t c41 (all_f c51 all_nil))))))))))))))
                      have hs2 : (turns (hds 15 3610) 0 3610 (evC byref (evCall F S4 (m + 24)) (m + 24) 0 (hds 15) lbu15_0) (m + 21) p15_e12 [(.cells [(.d (.sl (.int .i64) x0.1)), (.d (.sl (.int .i64) x0.2))]), (.arr (.pair .str .str) [(([97] : List UInt8), (p15_k1 x0))] true)]).run = some (.exit 0, p15_e4, [(.cells [(.d (.sl (.int .i64) x0.1)), (.d (.sl (.int .i64) x0.2))]), (.arr (.pair .str .str) [(([97] : List UInt8), (p15_k1 x0))] true)]) := Eq.mp (by kernel_rfl) hp3
                      have hp2 := turns_step ht2 hs2
                      have ht1 : (turn (hds 15 3610) 0 3610 (evC byref (evCall F S4 (m + 24)) (m + 24) 0 (hds 15) lbu15_0) p15_e9 [(.cells [(.d (.sl (.int .i64) x0.1)), (.d (.sl (.int .i64) x0.2))]), (.arr (.pair .str .str) [(([97] : List UInt8), (p15_k1 x0))] true)]).run = some (.normal, p15_e11, [(.cells [(.d (.sl (.int .i64) x0.1)), (.d (.sl (.int .i64) x0.2))]), (.arr (.pair .str .str) [(([97] : List UInt8), (p15_k1 x0))] true)]) := M.run_of_path _ [true, true, true, true, true, true, true, true, true, true, true, true, true, false] _ _ (by kernel_rfl) (all_t rfl (all_t rfl (all_t rfl (all_t c27 (all_t c27 (all_t c27 (all_t c27 (all_t rfl (all_t c27 (all_t c27 (all_t c27 (all_t c27 (all_t c27 (all_f c37 all_nil))))))))))))))
                      have hs1 : (turns (hds 15 3610) 0 3610 (evC byref (evCall F S4 (m + 24)) (m + 24) 0 (hds 15) lbu15_0) (m + 22) p15_e11 [(.cells [(.d (.sl (.int .i64) x0.1)), (.d (.sl (.int .i64) x0.2))]), (.arr (.pair .str .str) [(([97] : List UInt8), (p15_k1 x0))] true)]).run = some (.exit 0, p15_e4, [(.cells [(.d (.sl (.int .i64) x0.1)), (.d (.sl (.int .i64) x0.2))]), (.arr (.pair .str .str) [(([97] : List UInt8), (p15_k1 x0))] true)]) := Eq.mp (by kernel_rfl) hp2
                      have hp1 := turns_step ht1 hs1
                      have ht0 : (turn (hds 15 3610) 0 3610 (evC byref (evCall F S4 (m + 24)) (m + 24) 0 (hds 15) lbu15_0) p15_e6 [(.cells [(.d (.sl (.int .i64) x0.1)), (.d (.sl (.int .i64) x0.2))]), (.arr (.pair .str .str) ([] : List ((List UInt8) × (List UInt8))) true)]).run = some (.normal, p15_e9, [(.cells [(.d (.sl (.int .i64) x0.1)), (.d (.sl (.int .i64) x0.2))]), (.arr (.pair .str .str) [(([97] : List UInt8), (p15_k1 x0))] true)]) := M.run_of_path _ [true, true, true, true, true, true, true, true, true, true, true, true, true, true, true, true, true, true, true, true, true] _ _ (by kernel_rfl) (all_t rfl (all_t rfl (all_t rfl (all_t c6 (all_t c6 (all_t c6 (all_t c6 (all_t rfl (all_t c6 (all_t c6 (all_t c6 (all_t c6 (all_t c6 (all_t c16 (all_t c17 (all_t rfl (all_t c19 (all_t c20 (all_t rfl (all_t rfl (all_t rfl all_nil)))))))))))))))))))))
                      have hs0 : (turns (hds 15 3610) 0 3610 (evC byref (evCall F S4 (m + 24)) (m + 24) 0 (hds 15) lbu15_0) (m + 23) p15_e9 [(.cells [(.d (.sl (.int .i64) x0.1)), (.d (.sl (.int .i64) x0.2))]), (.arr (.pair .str .str) [(([97] : List UInt8), (p15_k1 x0))] true)]).run = some (.exit 0, p15_e4, [(.cells [(.d (.sl (.int .i64) x0.1)), (.d (.sl (.int .i64) x0.2))]), (.arr (.pair .str .str) [(([97] : List UInt8), (p15_k1 x0))] true)]) := Eq.mp (by kernel_rfl) hp1
                      have hp0 := turns_step ht0 hs0
                      exact Eq.trans (Eq.mp (by kernel_rfl) hp0) hq
                    cases hp
                · skip
                  cases h
                  refine ⟨(.d (.sl (.pair .str .str) [(([97] : List UInt8), (p15_k1 x0))])), [], runT_ok (LS := (fun k => if k = 3610 then some (.exit 0, p15_e4, [(.cells [(.d (.sl (.int .i64) x0.1)), (.d (.sl (.int .i64) x0.2))]), (.arr (.pair .str .str) [(([97] : List UInt8), (p15_k1 x0))] true)]) else none)) (fn := fn15) (vis := [(3610, p15_e6, [(.cells [(.d (.sl (.int .i64) x0.1)), (.d (.sl (.int .i64) x0.2))]), (.arr (.pair .str .str) ([] : List ((List UInt8) × (List UInt8))) true)])]) (by kernel_rfl) rfl (by kernel_rfl) (M.run_of_path _ [true, true, true, true] _ _ (by kernel_rfl) (all_t rfl (all_t rfl (all_t rfl (all_t rfl all_nil))))) ?_, by simp, (wkR.one (wkV.one (wk1.eq rfl))), trivial⟩
                  intro p hp p2 hq
                  rcases List.mem_cons.1 hp with rfl | hp
                  · skip
                    have ht3 : (turn (hds 15 3610) 0 3610 (evC byref (evCall F S4 (m + 24)) (m + 24) 0 (hds 15) lbu15_0) p15_e12 [(.cells [(.d (.sl (.int .i64) x0.1)), (.d (.sl (.int .i64) x0.2))]), (.arr (.pair .str .str) [(([97] : List UInt8), (p15_k1 x0))] true)]).run = some (.exit 0, p15_e4, [(.cells [(.d (.sl (.int .i64) x0.1)), (.d (.sl (.int .i64) x0.2))]), (.arr (.pair .str .str) [(([97] : List UInt8), (p15_k1 x0))] true)]) := M.run_of_path _ [false] _ _ (by kernel_rfl) (all_f Bool.false_ne_true all_nil)
                    have hp3 := turns_last (n := m + 20) (by simp) ht3
                    have ht2 : (turn (hds 15 3610) 0 3610 (evC byref (evCall F S4 (m + 24)) (m + 24) 0 (hds 15) lbu15_0) p15_e11 [(.cells [(.d (.sl (.int .i64) x0.1)), (.d (.sl (.int .i64) x0.2))]), (.arr (.pair .str .str) [(([97] : List UInt8), (p15_k1 x0))] true)]).run = some (.normal, p15_e12, [(.cells [(.d (.sl (.int .i64) x0.1)), (.d (.sl (.int .i64) x0.2))]), (.arr (.pair .str .str) [(([97] : List UInt8), (p15_k1 x0))] true)]) := M.run_of_path _ [true, true, true, false, false, false, false, false, false, false, false, false] _ _ (by kernel_rfl) (all_t rfl (all_t rfl (all_t rfl (all_f c41 (all_f c41 (all_f c41 (all_f c41 (all_f c41 (all_f c41 (all_f c41 (all_f c41 (all_f Bool.false_ne_true all_nil))))))))))))
                    have hs2 : (turns (hds 15 3610) 0 3610 (evC byref (evCall F S4 (m + 24)) (m + 24) 0 (hds 15) lbu15_0) (m + 21) p15_e12 [(.cells [(.d (.sl (.int .i64) x0.1)), (.d (.sl (.int .i64) x0.2))]), (.arr (.pair .str .str) [(([97] : List UInt8), (p15_k1 x0))] true)]).run = some (.exit 0, p15_e4, [(.cells [(.d (.sl (.int .i64) x0.1)), (.d (.sl (.int .i64) x0.2))]), (.arr (.pair .str .str) [(([97] : List UInt8), (p15_k1 x0))] true)]) := Eq.mp (by kernel_rfl) hp3
                    have hp2 := turns_step ht2 hs2
                    have ht1 : (turn (hds 15 3610) 0 3610 (evC byref (evCall F S4 (m + 24)) (m + 24) 0 (hds 15) lbu15_0) p15_e9 [(.cells [(.d (.sl (.int .i64) x0.1)), (.d (.sl (.int .i64) x0.2))]), (.arr (.pair .str .str) [(([97] : List UInt8), (p15_k1 x0))] true)]).run = some (.normal, p15_e11, [(.cells [(.d (.sl (.int .i64) x0.1)), (.d (.sl (.int .i64) x0.2))]), (.arr (.pair .str .str) [(([97] : List UInt8), (p15_k1 x0))] true)]) := M.run_of_path _ [true, true, true, true, true, true, true, true, true, true, true, true, true, false] _ _ (by kernel_rfl) (all_t rfl (all_t rfl (all_t rfl (all_t c27 (all_t c27 (all_t c27 (all_t c27 (all_t rfl (all_t c27 (all_t c27 (all_t c27 (all_t c27 (all_t c27 (all_f c37 all_nil))))))))))))))
                    have hs1 : (turns (hds 15 3610) 0 3610 (evC byref (evCall F S4 (m + 24)) (m + 24) 0 (hds 15) lbu15_0) (m + 22) p15_e11 [(.cells [(.d (.sl (.int .i64) x0.1)), (.d (.sl (.int .i64) x0.2))]), (.arr (.pair .str .str) [(([97] : List UInt8), (p15_k1 x0))] true)]).run = some (.exit 0, p15_e4, [(.cells [(.d (.sl (.int .i64) x0.1)), (.d (.sl (.int .i64) x0.2))]), (.arr (.pair .str .str) [(([97] : List UInt8), (p15_k1 x0))] true)]) := Eq.mp (by kernel_rfl) hp2
                    have hp1 := turns_step ht1 hs1
                    have ht0 : (turn (hds 15 3610) 0 3610 (evC byref (evCall F S4 (m + 24)) (m + 24) 0 (hds 15) lbu15_0) p15_e6 [(.cells [(.d (.sl (.int .i64) x0.1)), (.d (.sl (.int .i64) x0.2))]), (.arr (.pair .str .str) ([] : List ((List UInt8) × (List UInt8))) true)]).run = some (.normal, p15_e9, [(.cells [(.d (.sl (.int .i64) x0.1)), (.d (.sl (.int .i64) x0.2))]), (.arr (.pair .str .str) [(([97] : List UInt8), (p15_k1 x0))] true)]) := M.run_of_path _ [true, true, true, true, true, true, true, true, true, true, true, true, true, true, true, true, true, true, true, true, true] _ _ (by kernel_rfl) (all_t rfl (all_t rfl (all_t rfl (all_t c6 (all_t c6 (all_t c6 (all_t c6 (all_t rfl (all_t c6 (all_t c6 (all_t c6 (all_t c6 (all_t c6 (all_t c16 (all_t c17 (all_t rfl (all_t c19 (all_t c20 (all_t rfl (all_t rfl (all_t rfl all_nil)))))))))))))))))))))
                    have hs0 : (turns (hds 15 3610) 0 3610 (evC byref (evCall F S4 (m + 24)) (m + 24) 0 (hds 15) lbu15_0) (m + 23) p15_e9 [(.cells [(.d (.sl (.int .i64) x0.1)), (.d (.sl (.int .i64) x0.2))]), (.arr (.pair .str .str) [(([97] : List UInt8), (p15_k1 x0))] true)]).run = some (.exit 0, p15_e4, [(.cells [(.d (.sl (.int .i64) x0.1)), (.d (.sl (.int .i64) x0.2))]), (.arr (.pair .str .str) [(([97] : List UInt8), (p15_k1 x0))] true)]) := Eq.mp (by kernel_rfl) hp1
                    have hp0 := turns_step ht0 hs0
                    exact Eq.trans (Eq.mp (by kernel_rfl) hp0) hq
                  cases hp
            · skip
              refine ite_cases h (fun c39 h => ?_) (fun c39 h => ?_)
              · skip
                refine ite_cases h (fun c49 h => ?_) (fun c49 h => ?_)
                · skip
                  refine ite_cases h (fun c50 h => ?_) (fun c50 h => ?_)
                  · skip
                    refine ite_cases h (fun c52 h => ?_) (fun c52 h => ?_)
                    · skip
                      refine ite_cases h (fun c53 h => ?_) (fun c53 h => ?_)
                      · skip
                        cases h
                        refine ⟨(.d (.sl (.pair .str .str) [(([97] : List UInt8), (p15_k1 x0)), (([99] : List UInt8), (p15_k3 x0))])), [], runT_ok (LS := (fun k => if k = 3610 then some (.exit 0, p15_e3, [(.cells [(.d (.sl (.int .i64) x0.1)), (.d (.sl (.int .i64) x0.2))]), (.arr (.pair .str .str) [(([97] : List UInt8), (p15_k1 x0)), (([99] : List UInt8), (p15_k3 x0))] true)]) else none)) (fn := fn15) (vis := [(3610, p15_e6, [(.cells [(.d (.sl (.int .i64) x0.1)), (.d (.sl (.int .i64) x0.2))]), (.arr (.pair .str .str) ([] : List ((List UInt8) × (List UInt8))) true)])]) (by kernel_rfl) rfl (by kernel_rfl) (M.run_of_path _ [true, true, true, true] _ _ (by kernel_rfl) (all_t rfl (all_t rfl (all_t rfl (all_t rfl all_nil))))) ?_, by simp, (wkR.one (wkV.one (wk1.eq rfl))), trivial⟩
                        intro p hp p2 hq
                        rcases List.mem_cons.1 hp with rfl | hp
                        · skip
                          have ht3 : (turn (hds 15 3610) 0 3610 (evC byref (evCall F S4 (m + 24)) (m + 24) 0 (hds 15) lbu15_0) p15_e10 [(.cells [(.d (.sl (.int .i64) x0.1)), (.d (.sl (.int .i64) x0.2))]), (.arr (.pair .str .str) [(([97] : List UInt8), (p15_k1 x0)), (([99] : List UInt8), (p15_k3 x0))] true)]).run = some (.exit 0, p15_e3, [(.cells [(.d (.sl (.int .i64) x0.1)), (.d (.sl (.int .i64) x0.2))]), (.arr (.pair .str .str) [(([97] : List UInt8), (p15_k1 x0)), (([99] : List UInt8), (p15_k3 x0))] true)]) := M.run_of_path _ [false] _ _ (by kernel_rfl) (all_f Bool.false_ne_true all_nil)
                          have hp3 := turns_last (n := m + 20) (by simp) ht3
                          have ht2 : (turn (hds 15 3610) 0 3610 (evC byref (evCall F S4 (m + 24)) (m + 24) 0 (hds 15) lbu15_0) p15_e11 [(.cells [(.d (.sl (.int .i64) x0.1)), (.d (.sl (.int .i64) x0.2))]), (.arr (.pair .str .str) [(([97] : List UInt8), (p15_k1 x0))] true)]).run = some (.normal, p15_e10, [(.cells [(.d (.sl (.int .i64) x0.1)), (.d (.sl (.int .i64) x0.2))]), (.arr (.pair .str .str) [(([97] : List UInt8), (p15_k1 x0)), (([99] : List UInt8), (p15_k3 x0))] true)]) := M.run_of_path _ [true, true, true, true, true, true, true, true, true, true, true, true, true, true, true, true, true, true, true, true, true] _ _ (by kernel_rfl) (all_t rfl (all_t rfl (all_t rfl (all_t c39 (all_t c39 (all_t c39 (all_t c39 (all_t rfl (all_t c39 (all_t c39 (all_t c39 (all_t c39 (all_t c39 (all_t c49 (all_t c50 (all_t rfl (all_t c52 (all_t c53 (all_t rfl (all_t rfl (all_t rfl all_nil)))))))))))))))))))))
                          have hs2 : (turns (hds 15 3610) 0 3610 (evC byref (evCall F S4 (m + 24)) (m + 24) 0 (hds 15) lbu15_0) (m + 21) p15_e10 [(.cells [(.d (.sl (.int .i64) x0.1)), (.d (.sl (.int .i64) x0.2))]), (.arr (.pair .str .str) [(([97] : List UInt8), (p15_k1 x0)), (([99] : List UInt8), (p15_k3 x0))] true)]).run = some (.exit 0, p15_e3, [(.cells [(.d (.sl (.int .i64) x0.1)), (.d (.sl (.int .i64) x0.2))]), (.arr (.pair .str .str) [(([97] : List UInt8), (p15_k1 x0)), (([99] : List UInt8), (p15_k3 x0))] true)]) := Eq.mp (by kernel_rfl) hp3
                          have hp2 := turns_step ht2 hs2
                          have ht1 : (turn (hds 15 3610) 0 3610 (evC byref (evCall F S4 (m + 24)) (m + 24) 0 (hds 15) lbu15_0) p15_e9 [(.cells [(.d (.sl (.int .i64) x0.1)), (.d (.sl (.int .i64) x0.2))]), (.arr (.pair .str .str) [(([97] : List UInt8), (p15_k1 x0))] true)]).run = some (.normal, p15_e11, [(.cells [(.d (.sl (.int .i64) x0.1)), (.d (.sl (.int .i64) x0.2))]), (.arr (.pair .str .str) [(([97] : List UInt8), (p15_k1 x0))] true)]) := M.run_of_path _ [true, true, true, false, false, false, false, false, false, false, false, false] _ _ (by kernel_rfl) (all_t rfl (all_t rfl (all_t rfl (all_f c27 (all_f c27 (all_f c27 (all_f c27 (all_f c27 (all_f c27 (all_f c27 (all_f c27 (all_f Bool.false_ne_true all_nil))))))))))))
                          have hs1 : (turns (hds 15 3610) 0 3610 (evC byref (evCall F S4 (m + 24)) (m + 24) 0 (hds 15) lbu15_0) (m + 22) p15_e11 [(.cells [(.d (.sl (.int .i64) x0.1)), (.d (.sl (.int .i64) x0.2))]), (.arr (.pair .str .str) [(([97] : List UInt8), (p15_k1 x0))] true)]).run = some (.exit 0, p15_e3, [(.cells [(.d (.sl (.int .i64) x0.1)), (.d (.sl (.int .i64) x0.2))]), (.arr (.pair .str .str) [(([97] : List UInt8), (p15_k1 x0)), (([99] : List UInt8), (p15_k3 x0))] true)]) := Eq.mp (by kernel_rfl) hp2
                          have hp1 := turns_step ht1 hs1
                          have ht0 : (turn (hds 15 3610) 0 3610 (evC byref (evCall F S4 (m + 24)) (m + 24) 0 (hds 15) lbu15_0) p15_e6 [(.cells [(.d (.sl (.int .i64) x0.1)), (.d (.sl (.int .i64) x0.2))]), (.arr (.pair .str .str) ([] : List ((List UInt8) × (List UInt8))) true)]).run = some (.normal, p15_e9, [(.cells [(.d (.sl (.int .i64) x0.1)), (.d (.sl (.int .i64) x0.2))]), (.arr (.pair .str .str) [(([97] : List UInt8), (p15_k1 x0))] true)]) := M.run_of_path _ [true, true, true, true, true, true, true, true, true, true, true, true, true, true, true, true, true, true, true, true, true] _ _ (by kernel_rfl) (all_t rfl (all_t rfl (all_t rfl (all_t c6 (all_t c6 (all_t c6 (all_t c6 (all_t rfl (all_t c6 (all_t c6 (all_t c6 (all_t c6 (all_t c6 (all_t c16 (all_t c17 (all_t rfl (all_t c19 (all_t c20 (all_t rfl (all_t rfl (all_t rfl all_nil)))))))))))))))))))))
                          have hs0 : (turns (hds 15 3610) 0 3610 (evC byref (evCall F S4 (m + 24)) (m + 24) 0 (hds 15) lbu15_0) (m + 23) p15_e9 [(.cells [(.d (.sl (.int .i64) x0.1)), (.d (.sl (.int .i64) x0.2))]), (.arr (.pair .str .str) [(([97] : List UInt8), (p15_k1 x0))] true)]).run = some (.exit 0, p15_e3, [(.cells [(.d (.sl (.int .i64) x0.1)), (.d (.sl (.int .i64) x0.2))]), (.arr (.pair .str .str) [(([97] : List UInt8), (p15_k1 x0)), (([99] : List UInt8), (p15_k3 x0))] true)]) := Eq.mp (by kernel_rfl) hp1
                          have hp0 := turns_step ht0 hs0
                          exact Eq.trans (Eq.mp (by kernel_rfl) hp0) hq
                        cases hp
                      · skip
                        cases h
                    · skip
                      cases h
                  · skip
                    cases h
                · skip
                  cases h
                  refine ⟨(.d (.sl (.pair .str .str) [(([97] : List UInt8), (p15_k1 x0))])), [], runT_ok (LS := (fun k => if k = 3610 then some (.exit 0, p15_e4, [(.cells [(.d (.sl (.int .i64) x0.1)), (.d (.sl (.int .i64) x0.2))]), (.arr (.pair .str .str) [(([97] : List UInt8), (p15_k1 x0))] true)]) else none)) (fn := fn15) (vis := [(3610, p15_e6, [(.cells [(.d (.sl (.int .i64) x0.1)), (.d (.sl (.int .i64) x0.2))]), (.arr (.pair .str .str) ([] : List ((List UInt8) × (List UInt8))) true)])]) (by kernel_rfl) rfl (by kernel_rfl) (M.run_of_path _ [true, true, true, true] _ _ (by kernel_rfl) (all_t rfl (all_t rfl (all_t rfl (all_t rfl all_nil))))) ?_, by simp, (wkR.one (wkV.one (wk1.eq rfl))), trivial⟩
                  intro p hp p2 hq
                  rcases List.mem_cons.1 hp with rfl | hp
                  · skip
                    have ht3 : (turn (hds 15 3610) 0 3610 (evC byref (evCall F S4 (m + 24)) (m + 24) 0 (hds 15) lbu15_0) p15_e12 [(.cells [(.d (.sl (.int .i64) x0.1)), (.d (.sl (.int .i64) x0.2))]), (.arr (.pair .str .str) [(([97] : List UInt8), (p15_k1 x0))] true)]).run = some (.exit 0, p15_e4, [(.cells [(.d (.sl (.int .i64) x0.1)), (.d (.sl (.int .i64) x0.2))]), (.arr (.pair .str .str) [(([97] : List UInt8), (p15_k1 x0))] true)]) := M.run_of_path _ [false] _ _ (by kernel_rfl) (all_f Bool.false_ne_true all_nil)
                    have hp3 := turns_last (n := m + 20) (by simp) ht3
                    have ht2 : (turn (hds 15 3610) 0 3610 (evC byref (evCall F S4 (m + 24)) (m + 24) 0 (hds 15) lbu15_0) p15_e11 [(.cells [(.d (.sl (.int .i64) x0.1)), (.d (.sl (.int .i64) x0.2))]), (.arr (.pair .str .str) [(([97] : List UInt8), (p15_k1 x0))] true)]).run = some (.normal, p15_e12, [(.cells [(.d (.sl (.int .i64) x0.1)), (.d (.sl (.int .i64) x0.2))]), (.arr (.pair .str .str) [(([97] : List UInt8), (p15_k1 x0))] true)]) := M.run_of_path _ [true, true, true, true, true, true, true, true, true, true, true, true, true, false] _ _ (by kernel_rfl) (all_t rfl (all_t rfl (all_t rfl (all_t c39 (all_t c39 (all_t c39 (all_t c39 (all_t rfl (all_t c39 (all_t c39 (all_t c39 (all_t c39 (all_t c39 (all_f c49 all_nil))))))))))))))
                    have hs2 : (turns (hds 15 3610) 0 3610 (evC byref (evCall F S4 (m + 24)) (m + 24) 0 (hds 15) lbu15_0) (m + 21) p15_e12 [(.cells [(.d (.sl (.int .i64) x0.1)), (.d (.sl (.int .i64) x0.2))]), (.arr (.pair .str .str) [(([97] : List UInt8), (p15_k1 x0))] true)]).run = some (.exit 0, p15_e4, [(.cells [(.d (.sl (.int .i64) x0.1)), (.d (.sl (.int .i64) x0.2))]), (.arr (.pair .str .str) [(([97] : List UInt8), (p15_k1 x0))] true)]) := Eq.mp (by kernel_rfl) hp3
                    have hp2 := turns_step ht2 hs2
                    have ht1 : (turn (hds 15 3610) 0 3610 (evC byref (evCall F S4 (m + 24)) (m + 24) 0 (hds 15) lbu15_0) p15_e9 [(.cells [(.d (.sl (.int .i64) x0.1)), (.d (.sl (.int .i64) x0.2))]), (.arr (.pair .str .str) [(([97] : List UInt8), (p15_k1 x0))] true)]).run = some (.normal, p15_e11, [(.cells [(.d (.sl (.int .i64) x0.1)), (.d (.sl (.int .i64) x0.2))]), (.arr (.pair .str .str) [(([97] : List UInt8), (p15_k1 x0))] true)]) := M.run_of_path _ [true, true, true, false, false, false, false, false, false, false, false, false] _ _ (by kernel_rfl) (all_t rfl (all_t rfl (all_t rfl (all_f c27 (all_f c27 (all_f c27 (all_f c27 (all_f c27 (all_f c27 (all_f c27 (all_f c27 (all_f Bool.false_ne_true all_nil))))))))))))
                    have hs1 : (turns (hds 15 3610) 0 3610 (evC byref (evCall F S4 (m + 24)) (m + 24) 0 (hds 15) lbu15_0) (m + 22) p15_e11 [(.cells [(.d (.sl (.int .i64) x0.1)), (.d (.sl (.int .i64) x0.2))]), (.arr (.pair .str .str) [(([97] : List UInt8), (p15_k1 x0))] true)]).run = some (.exit 0, p15_e4, [(.cells [(.d (.sl (.int .i64) x0.1)), (.d (.sl (.int .i64) x0.2))]), (.arr (.pair .str .str) [(([97] : List UInt8), (p15_k1 x0))] true)]) := Eq.mp (by kernel_rfl) hp2
                    have hp1 := turns_step ht1 hs1
                    have ht0 : (turn (hds 15 3610) 0 3610 (evC byref (evCall F S4 (m + 24)) (m + 24) 0 (hds 15) lbu15_0) p15_e6 [(.cells [(.d (.sl (.int .i64) x0.1)), (.d (.sl (.int .i64) x0.2))]), (.arr (.pair .str .str) ([] : List ((List UInt8) × (List UInt8))) true)]).run = some (.normal, p15_e9, [(.cells [(.d (.sl (.int .i64) x0.1)), (.d (.sl (.int .i64) x0.2))]), (.arr (.pair .str .str) [(([97] : List UInt8), (p15_k1 x0))] true)]) := M.run_of_path _ [true, true, true, true, true, true, true, true, true, true, true, true, true, true, true, true, true, true, true, true, true] _ _ (by kernel_rfl) (all_t rfl (all_t rfl (all_t rfl (all_t c6 (all_t c6 (all_t c6 (all_t c6 (all_t rfl (all_t c6 (all_t c6 (all_t c6 (all_t c6 (all_t c6 (all_t c16 (all_t c17 (all_t rfl (all_t c19 (all_t c20 (all_t rfl (all_t rfl (all_t rfl all_nil)))))))))))))))))))))
                    have hs0 : (turns (hds 15 3610) 0 3610 (evC byref (evCall F S4 (m + 24)) (m + 24) 0 (hds 15) lbu15_0) (m + 23) p15_e9 [(.cells [(.d (.sl (.int .i64) x0.1)), (.d (.sl (.int .i64) x0.2))]), (.arr (.pair .str .str) [(([97] : List UInt8), (p15_k1 x0))] true)]).run = some (.exit 0, p15_e4, [(.cells [(.d (.sl (.int .i64) x0.1)), (.d (.sl (.int .i64) x0.2))]), (.arr (.pair .str .str) [(([97] : List UInt8), (p15_k1 x0))] true)]) := Eq.mp (by kernel_rfl) hp1
                    have hp0 := turns_step ht0 hs0
                    exact Eq.trans (Eq.mp (by kernel_rfl) hp0) hq
                  cases hp
              · skip
                cases h
                refine ⟨(.d (.sl (.pair .str .str) [(([97] : List UInt8), (p15_k1 x0))])), [], runT_ok (LS := (fun k => if k = 3610 then some (.exit 0, p15_e4, [(.cells [(.d (.sl (.int .i64) x0.1)), (.d (.sl (.int .i64) x0.2))]), (.arr (.pair .str .str) [(([97] : List UInt8), (p15_k1 x0))] true)]) else none)) (fn := fn15) (vis := [(3610, p15_e6, [(.cells [(.d (.sl (.int .i64) x0.1)), (.d (.sl (.int .i64) x0.2))]), (.arr (.pair .str .str) ([] : List ((List UInt8) × (List UInt8))) true)])]) (by kernel_rfl) rfl (by kernel_rfl) (M.run_of_path _ [true, true, true, true] _ _ (by kernel_rfl) (all_t rfl (all_t rfl (all_t rfl (all_t rfl all_nil))))) ?_, by simp, (wkR.one (wkV.one (wk1.eq rfl))), trivial⟩
                intro p hp p2 hq
                rcases List.mem_cons.1 hp with rfl | hp
                · skip
                  have ht3 : (turn (hds 15 3610) 0 3610 (evC byref (evCall F S4 (m + 24)) (m + 24) 0 (hds 15) lbu15_0) p15_e12 [(.cells [(.d (.sl (.int .i64) x0.1)), (.d (.sl (.int .i64) x0.2))]), (.arr (.pair .str .str) [(([97] : List UInt8), (p15_k1 x0))] true)]).run = some (.exit 0, p15_e4, [(.cells [(.d (.sl (.int .i64) x0.1)), (.d (.sl (.int .i64) x0.2))]), (.arr (.pair .str .str) [(([97] : List UInt8), (p15_k1 x0))] true)]) := M.run_of_path _ [false] _ _ (by kernel_rfl) (all_f Bool.false_ne_true all_nil)
                  have hp3 := turns_last (n := m + 20) (by simp) ht3
                  have ht2 : (turn (hds 15 3610) 0 3610 (evC byref (evCall F S4 (m + 24)) (m + 24) 0 (hds 15) lbu15_0) p15_e11 [(.cells [(.d (.sl (.int .i64) x0.1)), (.d (.sl (.int .i64) x0.2))]), (.arr (.pair .str .str) [(([97] : List UInt8), (p15_k1 x0))] true)]).run = some (.normal, p15_e12, [(.cells [(.d (.sl (.int .i64) x0.1)), (.d (.sl (.int .i64) x0.2))]), (.arr (.pair .str .str) [(([97] : List UInt8), (p15_k1 x0))] true)]) := M.run_of_path _ [true, true, true, false, false, false, false, false, false, false, false, false] _ _ (by kernel_rfl) (all_t rfl (all_t rfl (all_t rfl (all_f c39 (all_f c39 (all_f c39 (all_f c39 (all_f c39 (all_f c39 (all_f c39 (all_f c39 (all_f Bool.false_ne_true all_nil))))))))))))
                  have hs2 : (turns (hds 15 3610) 0 3610 (evC byref (evCall F S4 (m + 24)) (m + 24) 0 (hds 15) lbu15_0) (m + 21) p15_e12 [(.cells [(.d (.sl (.int .i64) x0.1)), (.d (.sl (.int .i64) x0.2))]), (.arr (.pair .str .str) [(([97] : List UInt8), (p15_k1 x0))] true)]).run = some (.exit 0, p15_e4, [(.cells [(.d (.sl (.int .i64) x0.1)), (.d (.sl (.int .i64) x0.2))]), (.arr (.pair .str .str) [(([97] : List UInt8), (p15_k1 x0))] true)]) := Eq.mp (by kernel_rfl) hp3
                  have hp2 := turns_step ht2 hs2
                  have ht1 : (turn (hds 15 3610) 0 3610 (evC byref (evCall F S4 (m + 24)) (m + 24) 0 (hds 15) lbu15_0) p15_e9 [(.cells [(.d (.sl (.int .i64) x0.1)), (.d (.sl (.int .i64) x0.2))]), (.arr (.pair .str .str) [(([97] : List UInt8), (p15_k1 x0))] true)]).run = some (.normal, p15_e11, [(.cells [(.d (.sl (.int .i64) x0.1)), (.d (.sl (.int .i64) x0.2))]), (.arr (.pair .str .str) [(([97] : List UInt8), (p15_k1 x0))] true)]) := M.run_of_path _ [true, true, true, false, false, false, false, false, false, false, false, false] _ _ (by kernel_rfl) (all_t rfl (all_t rfl (all_t rfl (all_f c27 (all_f c27 (all_f c27 (all_f c27 (all_f c27 (all_f c27 (all_f c27 (all_f c27 (all_f Bool.false_ne_true all_nil))))))))))))
                  have hs1 : (turns (hds 15 3610) 0 3610 (evC byref (evCall F S4 (m + 24)) (m + 24) 0 (hds 15) lbu15_0) (m + 22) p15_e11 [(.cells [(.d (.sl (.int .i64) x0.1)), (.d (.sl (.int .i64) x0.2))]), (.arr (.pair .str .str) [(([97] : List UInt8), (p15_k1 x0))] true)]).run = some (.exit 0, p15_e4, [(.cells [(.d (.sl (.int .i64) x0.1)), (.d (.sl (.int .i64) x0.2))]), (.arr (.pair .str .str) [(([97] : List UInt8), (p15_k1 x0))] true)]) := Eq.mp (by kernel_rfl) hp2
                  have hp1 := turns_step ht1 hs1
                  have ht0 : (turn (hds 15 3610) 0 3610 (evC byref (evCall F S4 (m + 24)) (m + 24) 0 (hds 15) lbu15_0) p15_e6 [(.cells [(.d (.sl (.int .i64) x0.1)), (.d (.sl (.int .i64) x0.2))]), (.arr (.pair .str .str) ([] : List ((List UInt8) × (List UInt8))) true)]).run = some (.normal, p15_e9, [(.cells [(.d (.sl (.int .i64) x0.1)), (.d (.sl (.int .i64) x0.2))]), (.arr (.pair .str .str) [(([97] : List UInt8), (p15_k1 x0))] true)]) := M.run_of_path _ [true, true, true, true, true, true, true, true, true, true, true, true, true, true, true, true, true, true, true, true, true] _ _ (by kernel_rfl) (all_t rfl (all_t rfl (all_t rfl (all_t c6 (all_t c6 (all_t c6 (all_t c6 (all_t rfl (all_t c6 (all_t c6 (all_t c6 (all_t c6 (all_t c6 (all_t c16 (all_t c17 (all_t rfl (all_t c19 (all_t c20 (all_t rfl (all_t rfl (all_t rfl all_nil)))))))))))))))))))))
                  have hs0 : (turns (hds 15 3610) 0 3610 (evC byref (evCall F S4 (m + 24)) (m + 24) 0 (hds 15) lbu15_0) (m + 23) p15_e9 [(.cells [(.d (.sl (.int .i64) x0.1)), (.d (.sl (.int .i64) x0.2))]), (.arr (.pair .str .str) [(([97] : List UInt8), (p15_k1 x0))] true)]).run = some (.exit 0, p15_e4, [(.cells [(.d (.sl (.int .i64) x0.1)), (.d (.sl (.int .i64) x0.2))]), (.arr (.pair .str .str) [(([97] : List UInt8), (p15_k1 x0))] true)]) := Eq.mp (by kernel_rfl) hp1
                  have hp0 := turns_step ht0 hs0
                  exact Eq.trans (Eq.mp (by kernel_rfl) hp0) hq
                cases hp
          · skip
            cases h
        · skip
          cases h
      · skip
        cases h
    · skip
      refine ite_cases h (fun c20 h => ?_) (fun c20 h => ?_)
      · skip
        refine ite_cases h (fun c30 h => ?_) (fun c30 h => ?_)
        · skip
          refine ite_cases h (fun c31 h => ?_) (fun c31 h => ?_)
          · skip
            refine ite_cases h (fun c33 h => ?_) (fun c33 h => ?_)
            · skip
              refine ite_cases h (fun c34 h => ?_) (fun c34 h => ?_)
              · skip
                refine ite_cases h (fun c41 h => ?_) (fun c41 h => ?_)
                · skip
                  refine ite_cases h (fun c51 h => ?_) (fun c51 h => ?_)
                  · skip
                    refine ite_cases h (fun c52 h => ?_) (fun c52 h => ?_)
                    · skip
                      refine ite_cases h (fun c54 h => ?_) (fun c54 h => ?_)
                      · skip
                        refine ite_cases h (fun c55 h => ?_) (fun c55 h => ?_)
                        · skip
                          cases h
                          refine ⟨(.d (.sl (.pair .str .str) [(([98] : List UInt8), (p15_k2 x0)), (([99] : List UInt8), (p15_k3 x0))])), [], runT_ok (LS := (fun k => if k = 3610 then some (.exit 0, p15_e3, [(.cells [(.d (.sl (.int .i64) x0.1)), (.d (.sl (.int .i64) x0.2))]), (.arr (.pair .str .str) [(([98] : List UInt8), (p15_k2 x0)), (([99] : List UInt8), (p15_k3 x0))] true)]) else none)) (fn := fn15) (vis := [(3610, p15_e6, [(.cells [(.d (.sl (.int .i64) x0.1)), (.d (.sl (.int .i64) x0.2))]), (.arr (.pair .str .str) ([] : List ((List UInt8) × (List UInt8))) true)])]) (by kernel_rfl) rfl (by kernel_rfl) (M.run_of_path _ [true, true, true, true] _ _ (by kernel_rfl) (all_t rfl (all_t rfl (all_t rfl (all_t rfl all_nil))))) ?_, by simp, (wkR.one (wkV.one (wk1.eq rfl))), trivial⟩
                          intro p hp p2 hq
                          rcases List.mem_cons.1 hp with rfl | hp
                          · skip
                            have ht3 : (turn (hds 15 3610) 0 3610 (evC byref (evCall F S4 (m + 24)) (m + 24) 0 (hds 15) lbu15_0) p15_e10 [(.cells [(.d (.sl (.int .i64) x0.1)), (.d (.sl (.int .i64) x0.2))]), (.arr (.pair .str .str) [(([98] : List UInt8), (p15_k2 x0)), (([99] : List UInt8), (p15_k3 x0))] true)]).run = some (.exit 0, p15_e3, [(.cells [(.d (.sl (.int .i64) x0.1)), (.d (.sl (.int .i64) x0.2))]), (.arr (.pair .str .str) [(([98] : List UInt8), (p15_k2 x0)), (([99] : List UInt8), (p15_k3 x0))] true)]) := M.run_of_path _ [false] _ _ (by kernel_rfl) (all_f Bool.false_ne_true all_nil)
                            have hp3 := turns_last (n := m + 20) (by simp) ht3
                            have ht2 : (turn (hds 15 3610) 0 3610 (evC byref (evCall F S4 (m + 24)) (m + 24) 0 (hds 15) lbu15_0) p15_e11 [(.cells [(.d (.sl (.int .i64) x0.1)), (.d (.sl (.int .i64) x0.2))]), (.arr (.pair .str .str) [(([98] : List UInt8), (p15_k2 x0))] true)]).run = some (.normal, p15_e10, [(.cells [(.d (.sl (.int .i64) x0.1)), (.d (.sl (.int .i64) x0.2))]), (.arr (.pair .str .str) [(([98] : List UInt8), (p15_k2 x0)), (([99] : List UInt8), (p15_k3 x0))] true)]) := M.run_of_path _ [true, true, true, true, true, true, true, true, true, true, true, true, true, true, true, true, true, true, true, true, true] _ _ (by kernel_rfl) (all_t rfl (all_t rfl (all_t rfl (all_t c41 (all_t c41 (all_t c41 (all_t c41 (all_t rfl (all_t c41 (all_t c41 (all_t c41 (all_t c41 (all_t c41 (all_t c51 (all_t c52 (all_t rfl (all_t c54 (all_t c55 (all_t rfl (all_t rfl (all_t rfl all_nil)))))))))))))))))))))
                            have hs2 : (turns (hds 15 3610) 0 3610 (evC byref (evCall F S4 (m + 24)) (m + 24) 0 (hds 15) lbu15_0) (m + 21) p15_e10 [(.cells [(.d (.sl (.int .i64) x0.1)), (.d (.sl (.int .i64) x0.2))]), (.arr (.pair .str .str) [(([98] : List UInt8), (p15_k2 x0)), (([99] : List UInt8), (p15_k3 x0))] true)]).run = some (.exit 0, p15_e3, [(.cells [(.d (.sl (.int .i64) x0.1)), (.d (.sl (.int .i64) x0.2))]), (.arr (.pair .str .str) [(([98] : List UInt8), (p15_k2 x0)), (([99] : List UInt8), (p15_k3 x0))] true)]) := Eq.mp (by kernel_rfl) hp3
                            have hp2 := turns_step ht2 hs2
                            have ht1 : (turn (hds 15 3610) 0 3610 (evC byref (evCall F S4 (m + 24)) (m + 24) 0 (hds 15) lbu15_0) p15_e13 [(.cells [(.d (.sl (.int .i64) x0.1)), (.d (.sl (.int .i64) x0.2))]), (.arr (.pair .str .str) ([] : List ((List UInt8) × (List UInt8))) true)]).run = some (.normal, p15_e11, [(.cells [(.d (.sl (.int .i64) x0.1)), (.d (.sl (.int .i64) x0.2))]), (.arr (.pair .str .str) [(([98] : List UInt8), (p15_k2 x0))] true)]) := M.run_of_path _ [true, true, true, true, true, true, true, true, true, true, true, true, true, true, true, true, true, true, true, true, true] _ _ (by kernel_rfl) (all_t rfl (all_t rfl (all_t rfl (all_t c20 (all_t c20 (all_t c20 (all_t c20 (all_t rfl (all_t c20 (all_t c20 (all_t c20 (all_t c20 (all_t c20 (all_t c30 (all_t c31 (all_t rfl (all_t c33 (all_t c34 (all_t rfl (all_t rfl (all_t rfl all_nil)))))))))))))))))))))
                            have hs1 : (turns (hds 15 3610) 0 3610 (evC byref (evCall F S4 (m + 24)) (m + 24) 0 (hds 15) lbu15_0) (m + 22) p15_e11 [(.cells [(.d (.sl (.int .i64) x0.1)), (.d (.sl (.int .i64) x0.2))]), (.arr (.pair .str .str) [(([98] : List UInt8), (p15_k2 x0))] true)]).run = some (.exit 0, p15_e3, [(.cells [(.d (.sl (.int .i64) x0.1)), (.d (.sl (.int .i64) x0.2))]), (.arr (.pair .str .str) [(([98] : List UInt8), (p15_k2 x0)), (([99] : List UInt8), (p15_k3 x0))] true)]) := Eq.mp (by kernel_rfl) hp2
                            have hp1 := turns_step ht1 hs1
                            have ht0 : (turn (hds 15 3610) 0 3610 (evC byref (evCall F S4 (m + 24)) (m + 24) 0 (hds 15) lbu15_0) p15_e6 [(.cells [(.d (.sl (.int .i64) x0.1)), (.d (.sl (.int .i64) x0.2))]), (.arr (.pair .str .str) ([] : List ((List UInt8) × (List UInt8))) true)]).run = some (.normal, p15_e13, [(.cells [(.d (.sl (.int .i64) x0.1)), (.d (.sl (.int .i64) x0.2))]), (.arr (.pair .str .str) ([] : List ((List UInt8) × (List UInt8))) true)]) := M.run_of_path _ [true, true, true, true, true, true, true, true, true, true, true, true, true, false] _ _ (by kernel_rfl) (all_t rfl (all_t rfl (all_t rfl (all_t c6 (all_t c6 (all_t c6 (all_t c6 (all_t rfl (all_t c6 (all_t c6 (all_t c6 (all_t c6 (all_t c6 (all_f c16 all_nil))))))))))))))
                            have hs0 : (turns (hds 15 3610) 0 3610 (evC byref (evCall F S4 (m + 24)) (m + 24) 0 (hds 15) lbu15_0) (m + 23) p15_e13 [(.cells [(.d (.sl (.int .i64) x0.1)), (.d (.sl (.int .i64) x0.2))]), (.arr (.pair .str .str) ([] : List ((List UInt8) × (List UInt8))) true)]).run = some (.exit 0, p15_e3, [(.cells [(.d (.sl (.int .i64) x0.1)), (.d (.sl (.int .i64) x0.2))]), (.arr (.pair .str .str) [(([98] : List UInt8), (p15_k2 x0)), (([99] : List UInt8), (p15_k3 x0))] true)]) := Eq.mp (by kernel_rfl) hp1
                            have hp0 := turns_step ht0 hs0
                            exact Eq.trans (Eq.mp (by kernel_rfl) hp0) hq
                          cases hp
                        · skip
                          cases h
                      · skip
                        cases h
                    · skip
                      cases h
                  · skip
                    cases h
                    refine ⟨(.d (.sl (.pair .str .str) [(([98] : List UInt8), (p15_k2 x0))])), [], runT_ok (LS := (fun k => if k = 3610 then some (.exit 0, p15_e4, [(.cells [(.d (.sl (.int .i64) x0.1)), (.d (.sl (.int .i64) x0.2))]), (.arr (.pair .str .str) [(([98] : List UInt8), (p15_k2 x0))] true)]) else none)) (fn := fn15) (vis := [(3610, p15_e6, [(.cells [(.d (.sl (.int .i64) x0.1)), (.d (.sl (.int .i64) x0.2))]), (.arr (.pair .str .str) ([] : List ((List UInt8) × (List UInt8))) true)])]) (by kernel_rfl) rfl (by kernel_rfl) (M.run_of_path _ [true, true, true, true] _ _ (by kernel_rfl) (all_t rfl (all_t rfl (all_t rfl (all_t rfl all_nil))))) ?_, by simp, (wkR.one (wkV.one (wk1.eq rfl))), trivial⟩
                    intro p hp p2 hq
                    rcases List.mem_cons.1 hp with rfl | hp
                    · skip
                      have ht3 : (turn (hds 15 3610) 0 3610 (evC byref (evCall F S4 (m + 24)) (m + 24) 0 (hds 15) lbu15_0) p15_e12 [(.cells [(.d (.sl (.int .i64) x0.1)), (.d (.sl (.int .i64) x0.2))]), (.arr (.pair .str .str) [(([98] : List UInt8), (p15_k2 x0))] true)]).run = some (.exit 0, p15_e4, [(.cells [(.d (.sl (.int .i64) x0.1)), (.d (.sl (.int .i64) x0.2))]), (.arr (.pair .str .str) [(([98] : List UInt8), (p15_k2 x0))] true)]) := M.run_of_path _ [false] _ _ (by kernel_rfl) (all_f Bool.false_ne_true all_nil)
                      have hp3 := turns_last (n := m + 20) (by simp) ht3
                      have ht2 : (turn (hds 15 3610) 0 3610 (evC byref (evCall F S4 (m + 24)) (m + 24) 0 (hds 15) lbu15_0) p15_e11 [(.cells [(.d (.sl (.int .i64) x0.1)), (.d (.sl (.int .i64) x0.2))]), (.arr (.pair .str .str) [(([98] : List UInt8), (p15_k2 x0))] true)]).run = some (.normal, p15_e12, [(.cells [(.d (.sl (.int .i64) x0.1)), (.d (.sl (.int .i64) x0.2))]), (.arr (.pair .str .str) [(([98] : List UInt8), (p15_k2 x0))] true)]) := M.run_of_path _ [true, true, true, true, true, true, true, true, true, true, true, true, true, false] _ _ (by kernel_rfl) (all_t rfl (all_t rfl (all_t rfl (all_t c41 (all_t c41 (all_t c41 (all_t c41 (all_t rfl (all_t c41 (all_t c41 (all_t c41 (all_t c41 (all_t c41 (all_f c51 all_nil))))))))))))))
                      have hs2 : (turns (hds 15 3610) 0 3610 (evC byref (evCall F S4 (m + 24)) (m + 24) 0 (hds 15) lbu15_0) (m + 21) p15_e12 [(.cells [(.d (.sl (.int .i64) x0.1)), (.d (.sl (.int .i64) x0.2))]), (.arr (.pair .str .str) [(([98] : List UInt8), (p15_k2 x0))] true)]).run = some (.exit 0, p15_e4, [(.cells [(.d (.sl (.int .i64) x0.1)), (.d (.sl (.int .i64) x0.2))]), (.arr (.pair .str .str) [(([98] : List UInt8), (p15_k2 x0))] true)]) := Eq.mp (by kernel_rfl) hp3
                      have hp2 := turns_step ht2 hs2
                      have ht1 : (turn (hds 15 3610) 0 3610 (evC byref (evCall F S4 (m + 24)) (m + 24) 0 (hds 15) lbu15_0) p15_e13 [(.cells [(.d (.sl (.int .i64) x0.1)), (.d (.sl (.int .i64) x0.2))]), (.arr (.pair .str .str) ([] : List ((List UInt8) × (List UInt8))) true)]).run = some (.normal, p15_e11, [(.cells [(.d (.sl (.int .i64) x0.1)), (.d (.sl (.int .i64) x0.2))]), (.arr (.pair .str .str) [(([98] : List UInt8), (p15_k2 x0))] true)]) := M.run_of_path _ [true, true, true, true, true, true, true, true, true, true, true, true, true, true, true, true, true, true, true, true, true] _ _ (by kernel_rfl) (all_t rfl (all_t rfl (all_t rfl (all_t c20 (all_t c20 (all_t c20 (all_t c20 (all_t rfl (all_t c20 (all_t c20 (all_t c20 (all_t c20 (all_t c20 (all_t c30 (all_t c31 (all_t rfl (all_t c33 (all_t c34 (all_t rfl (all_t rfl (all_t rfl all_nil)))))))))))))))))))))
                      have hs1 : (turns (hds 15 3610) 0 3610 (evC byref (evCall F S4 (m + 24)) (m + 24) 0 (hds 15) lbu15_0) (m + 22) p15_e11 [(.cells [(.d (.sl (.int .i64) x0.1)), (.d (.sl (.int .i64) x0.2))]), (.arr (.pair .str .str) [(([98] : List UInt8), (p15_k2 x0))] true)]).run = some (.exit 0, p15_e4, [(.cells [(.d (.sl (.int .i64) x0.1)), (.d (.sl (.int .i64) x0.2))]), (.arr (.pair .str .str) [(([98] : List UInt8), (p15_k2 x0))] true)]) := Eq.mp (by kernel_rfl) hp2
                      have hp1 := turns_step ht1 hs1
                      have ht0 : (turn (hds 15 3610) 0 3610 (evC byref (evCall F S4 (m + 24)) (m + 24) 0 (hds 15) lbu15_0) p15_e6 [(.cells [(.d (.sl (.int .i64) x0.1)), (.d (.sl (.int .i64) x0.2))]), (.arr (.pair .str .str) ([] : List ((List UInt8) × (List UInt8))) true)]).run = some (.normal, p15_e13, [(.cells [(.d (.sl (.int .i64) x0.1)), (.d (.sl (.int .i64) x0.2))]), (.arr (.pair .str .str) ([] : List ((List UInt8) × (List UInt8))) true)]) := M.run_of_path _ [true, true, true, true, true, true, true, true, true, true, true, true, true, false] _ _ (by kernel_rfl) (all_t rfl (all_t rfl (all_t rfl (all_t c6 (all_t c6 (all_t c6 (all_t c6 (all_t rfl (all_t c6 (all_t c6 (all_t c6 (all_t c6 (all_t c6 (all_f c16 all_nil))))))))))))))
                      have hs0 : (turns (hds 15 3610) 0 3610 (evC byref (evCall F S4 (m + 24)) (m + 24) 0 (hds 15) lbu15_0) (m + 23) p15_e13 [(.cells [(.d (.sl (.int .i64) x0.1)), (.d (.sl (.int .i64) x0.2))]), (.arr (.pair .str .str) ([] : List ((List UInt8) × (List UInt8))) true)]).run = some (.exit 0, p15_e4, [(.cells [(.d (.sl (.int .i64) x0.1)), (.d (.sl (.int .i64) x0.2))]), (.arr (.pair .str .str) [(([98] : List UInt8), (p15_k2 x0))] true)]) := Eq.mp (by kernel_rfl) hp1
                      have hp0 := turns_step ht0 hs0
                      exact Eq.trans (Eq.mp (by kernel_rfl) hp0) hq
                    cases hp
                · skip
                  cases h
                  refine ⟨(.d (.sl (.pair .str .str) [(([98] : List UInt8), (p15_k2 x0))])), [], runT_ok (LS := (fun k => if k = 3610 then some (.exit 0, p15_e4, [(.cells [(.d (.sl (.int .i64) x0.1)), (.d (.sl (.int .i64) x0.2))]), (.arr (.pair .str .str) [(([98] : List UInt8), (p15_k2 x0))] true)]) else none)) (fn := fn15) (vis := [(3610, p15_e6, [(.cells [(.d (.sl (.int .i64) x0.1)), (.d (.sl (.int .i64) x0.2))]), (.arr (.pair .str .str) ([] : List ((List UInt8) × (List UInt8))) true)])]) (by kernel_rfl) rfl (by kernel_rfl) (M.run_of_path _ [true, true, true, true] _ _ (by kernel_rfl) (all_t rfl (all_t rfl (all_t rfl (all_t rfl all_nil))))) ?_, by simp, (wkR.one (wkV.one (wk1.eq rfl))), trivial⟩
                  intro p hp p2 hq
                  rcases List.mem_cons.1 hp with rfl | hp
                  · skip
                    have ht3 : (turn (hds 15 3610) 0 3610 (evC byref (evCall F S4 (m + 24)) (m + 24) 0 (hds 15) lbu15_0) p15_e12 [(.cells [(.d (.sl (.int .i64) x0.1)), (.d (.sl (.int .i64) x0.2))]), (.arr (.pair .str .str) [(([98] : List UInt8), (p15_k2 x0))] true)]).run = some (.exit 0, p15_e4, [(.cells [(.d (.sl (.int .i64) x0.1)), (.d (.sl (.int .i64) x0.2))]), (.arr (.pair .str .str) [(([98] : List UInt8), (p15_k2 x0))] true)]) := M.run_of_path _ [false] _ _ (by kernel_rfl) (all_f Bool.false_ne_true all_nil)
                    have hp3 := turns_last (n := m + 20) (by simp) ht3
                    have ht2 : (turn (hds 15 3610) 0 3610 (evC byref (evCall F S4 (m + 24)) (m + 24) 0 (hds 15) lbu15_0) p15_e11 [(.cells [(.d (.sl (.int .i64) x0.1)), (.d (.sl (.int .i64) x0.2))]), (.arr (.pair .str .str) [(([98] : List UInt8), (p15_k2 x0))] true)]).run = some (.normal, p15_e12, [(.cells [(.d (.sl (.int .i64) x0.1)), (.d (.sl (.int .i64) x0.2))]), (.arr (.pair .str .str) [(([98] : List UInt8), (p15_k2 x0))] true)]) := M.run_of_path _ [true, true, true, false, false, false, false, false, false, false, false, false] _ _ (by kernel_rfl) (all_t rfl (all_t rfl (all_t rfl (all_f c41 (all_f c41 (all_f c41 (all_f c41 (all_f c41 (all_f c41 (all_f c41 (all_f c41 (all_f Bool.false_ne_true all_nil))))))))))))
                    have hs2 : (turns (hds 15 3610) 0 3610 (evC byref (evCall F S4 (m + 24)) (m + 24) 0 (hds 15) lbu15_0) (m + 21) p15_e12 [(.cells [(.d (.sl (.int .i64) x0.1)), (.d (.sl (.int .i64) x0.2))]), (.arr (.pair .str .str) [(([98] : List UInt8), (p15_k2 x0))] true)]).run = some (.exit 0, p15_e4, [(.cells [(.d (.sl (.int .i64) x0.1)), (.d (.sl (.int .i64) x0.2))]), (.arr (.pair .str .str) [(([98] : List UInt8), (p15_k2 x0))] true)]) := Eq.mp (by kernel_rfl) hp3
                    have hp2 := turns_step ht2 hs2
                    have ht1 : (turn (hds 15 3610) 0 3610 (evC byref (evCall F S4 (m + 24)) (m + 24) 0 (hds 15) lbu15_0) p15_e13 [(.cells [(.d (.sl (.int .i64) x0.1)), (.d (.sl (.int .i64) x0.2))]), (.arr (.pair .str .str) ([] : List ((List UInt8) × (List UInt8))) true)]).run = some (.normal, p15_e11, [(.cells [(.d (.sl (.int .i64) x0.1)), (.d (.sl (.int .i64) x0.2))]), (.arr (.pair .str .str) [(([98] : List UInt8), (p15_k2 x0))] true)]) := M.run_of_path _ [true, true, true, true, true, true, true, true, true, true, true, true, true, true, true, true, true, true, true, true, true] _ _ (by kernel_rfl) (all_t rfl (all_t rfl (all_t rfl (all_t c20 (all_t c20 (all_t c20 (all_t c20 (all_t rfl (all_t c20 (all_t c20 (all_t c20 (all_t c20 (all_t c20 (all_t c30 (all_t c31 (all_t rfl (all_t c33 (all_t c34 (all_t rfl (all_t rfl (all_t rfl all_nil)))))))))))))))))))))
                    have hs1 : (turns (hds 15 3610) 0 3610 (evC byref (evCall F S4 (m + 24)) (m + 24) 0 (hds 15) lbu15_0) (m + 22) p15_e11 [(.cells [(.d (.sl (.int .i64) x0.1)), (.d (.sl (.int .i64) x0.2))]), (.arr (.pair .str .str) [(([98] : List UInt8), (p15_k2 x0))] true)]).run = some (.exit 0, p15_e4, [(.cells [(.d (.sl (.int .i64) x0.1)), (.d (.sl (.int .i64) x0.2))]), (.arr (.pair .str .str) [(([98] : List UInt8), (p15_k2 x0))] true)]) := Eq.mp (by kernel_rfl) hp2
                    have hp1 := turns_step ht1 hs1
                    have ht0 : (turn (hds 15 3610) 0 3610 (evC byref (evCall F S4 (m + 24)) (m + 24) 0 (hds 15) lbu15_0) p15_e6 [(.cells [(.d (.sl (.int .i64) x0.1)), (.d (.sl (.int .i64) x0.2))]), (.arr (.pair .str .str) ([] : List ((List UInt8) × (List UInt8))) true)]).run = some (.normal, p15_e13, [(.cells [(.d (.sl (.int .i64) x0.1)), (.d (.sl (.int .i64) x0.2))]), (.arr (.pair .str .str) ([] : List ((List UInt8) × (List UInt8))) true)]) := M.run_of_path _ [true, true, true, true, true, true, true, true, true, true, true, true, true, false] _ _ (by kernel_rfl) (all_t rfl (all_t rfl (all_t rfl (all_t c6 (all_t c6 (all_t c6 (all_t c6 (all_t rfl (all_t c6 (all_t c6 (all_t c6 (all_t c6 (all_t c6 (all_f c16 all_nil))))))))))))))
                    have hs0 : (turns (hds 15 3610) 0 3610 (evC byref (evCall F S4 (m + 24)) (m + 24) 0 (hds 15) lbu15_0) (m + 23) p15_e13 [(.cells [(.d (.sl (.int .i64) x0.1)), (.d (.sl (.int .i64) x0.2))]), (.arr (.pair .str .str) ([] : List ((List UInt8) × (List UInt8))) true)]).run = some (.exit 0, p15_e4, [(.cells [(.d (.sl (.int .i64) x0.1)), (.d (.sl (.int .i64) x0.2))]), (.arr (.pair .str .str) [(([98] : List UInt8), (p15_k2 x0))] true)]) := Eq.mp (by kernel_rfl) hp1
                    have hp0 := turns_step ht0 hs0
                    exact Eq.trans (Eq.mp (by kernel_rfl) hp0) hq
                  cases hp
              · skip
                cases h
            · skip
              cases h
          · skip
            cases h
        · skip
          refine ite_cases h (fun c34 h => ?_) (fun c34 h => ?_)
          · skip
            refine ite_cases h (fun c44 h => ?_) (fun c44 h => ?_)
            · skip
              refine ite_cases h (fun c45 h => ?_) (fun c45 h => ?_)
              · skip
                refine ite_cases h (fun c47 h => ?_) (fun c47 h => ?_)
                · skip
                  refine ite_cases h (fun c48 h => ?_) (fun c48 h => ?_)
                  · skip
                    cases h
                    refine ⟨(.d (.sl (.pair .str .str) [(([99] : List UInt8), (p15_k3 x0))])), [], runT_ok (LS := (fun k => if k = 3610 then some (.exit 0, p15_e4, [(.cells [(.d (.sl (.int .i64) x0.1)), (.d (.sl (.int .i64) x0.2))]), (.arr (.pair .str .str) [(([99] : List UInt8), (p15_k3 x0))] true)]) else none)) (fn := fn15) (vis := [(3610, p15_e6, [(.cells [(.d (.sl (.int .i64) x0.1)), (.d (.sl (.int .i64) x0.2))]), (.arr (.pair .str .str) ([] : List ((List UInt8) × (List UInt8))) true)])]) (by kernel_rfl) rfl (by kernel_rfl) (M.run_of_path _ [true, true, true, true] _ _ (by kernel_rfl) (all_t rfl (all_t rfl (all_t rfl (all_t rfl all_nil))))) ?_, by simp, (wkR.one (wkV.one (wk1.eq rfl))), trivial⟩
                    intro p hp p2 hq
                    rcases List.mem_cons.1 hp with rfl | hp
                    · skip
                      have ht3 : (turn (hds 15 3610) 0 3610 (evC byref (evCall F S4 (m + 24)) (m + 24) 0 (hds 15) lbu15_0) p15_e12 [(.cells [(.d (.sl (.int .i64) x0.1)), (.d (.sl (.int .i64) x0.2))]), (.arr (.pair .str .str) [(([99] : List UInt8), (p15_k3 x0))] true)]).run = some (.exit 0, p15_e4, [(.cells [(.d (.sl (.int .i64) x0.1)), (.d (.sl (.int .i64) x0.2))]), (.arr (.pair .str .str) [(([99] : List UInt8), (p15_k3 x0))] true)]) := M.run_of_path _ [false] _ _ (by kernel_rfl) (all_f Bool.false_ne_true all_nil)
                      have hp3 := turns_last (n := m + 20) (by simp) ht3
                      have ht2 : (turn (hds 15 3610) 0 3610 (evC byref (evCall F S4 (m + 24)) (m + 24) 0 (hds 15) lbu15_0) p15_e14 [(.cells [(.d (.sl (.int .i64) x0.1)), (.d (.sl (.int .i64) x0.2))]), (.arr (.pair .str .str) ([] : List ((List UInt8) × (List UInt8))) true)]).run = some (.normal, p15_e12, [(.cells [(.d (.sl (.int .i64) x0.1)), (.d (.sl (.int .i64) x0.2))]), (.arr (.pair .str .str) [(([99] : List UInt8), (p15_k3 x0))] true)]) := M.run_of_path _ [true, true, true, true, true, true, true, true, true, true, true, true, true, true, true, true, true, true, true, true, true] _ _ (by kernel_rfl) (all_t rfl (all_t rfl (all_t rfl (all_t c34 (all_t c34 (all_t c34 (all_t c34 (all_t rfl (all_t c34 (all_t c34 (all_t c34 (all_t c34 (all_t c34 (all_t c44 (all_t c45 (all_t rfl (all_t c47 (all_t c48 (all_t rfl (all_t rfl (all_t rfl all_nil)))))))))))))))))))))
                      have hs2 : (turns (hds 15 3610) 0 3610 (evC byref (evCall F S4 (m + 24)) (m + 24) 0 (hds 15) lbu15_0) (m + 21) p15_e12 [(.cells [(.d (.sl (.int .i64) x0.1)), (.d (.sl (.int .i64) x0.2))]), (.arr (.pair .str .str) [(([99] : List UInt8), (p15_k3 x0))] true)]).run = some (.exit 0, p15_e4, [(.cells [(.d (.sl (.int .i64) x0.1)), (.d (.sl (.int .i64) x0.2))]), (.arr (.pair .str .str) [(([99] : List UInt8), (p15_k3 x0))] true)]) := Eq.mp (by kernel_rfl) hp3
                      have hp2 := turns_step ht2 hs2
                      have ht1 : (turn (hds 15 3610) 0 3610 (evC byref (evCall F S4 (m + 24)) (m + 24) 0 (hds 15) lbu15_0) p15_e13 [(.cells [(.d (.sl (.int .i64) x0.1)), (.d (.sl (.int .i64) x0.2))]), (.arr (.pair .str .str) ([] : List ((List UInt8) × (List UInt8))) true)]).run = some (.normal, p15_e14, [(.cells [(.d (.sl (.int .i64) x0.1)), (.d (.sl (.int .i64) x0.2))]), (.arr (.pair .str .str) ([] : List ((List UInt8) × (List UInt8))) true)]) := M.run_of_path _ [true, true, true, true, true, true, true, true, true, true, true, true, true, false] _ _ (by kernel_rfl) (all_t rfl (all_t rfl (all_t rfl (all_t c20 (all_t c20 (all_t c20 (all_t c20 (all_t rfl (all_t c20 (all_t c20 (all_t c20 (all_t c20 (all_t c20 (all_f c30 all_nil))))))))))))))
                      have hs1 : (turns (hds 15 3610) 0 3610 (evC byref (evCall F S4 (m + 24)) (m + 24) 0 (hds 15) lbu15_0) (m + 22) p15_e14 [(.cells [(.d (.sl (.int .i64) x0.1)), (.d (.sl (.int .i64) x0.2))]), (.arr (.pair .str .str) ([] : List ((List UInt8) × (List UInt8))) true)]).run = some (.exit 0, p15_e4, [(.cells [(.d (.sl (.int .i64) x0.1)), (.d (.sl (.int .i64) x0.2))]), (.arr (.pair .str .str) [(([99] : List UInt8), (p15_k3 x0))] true)]) := Eq.mp (by kernel_rfl) hp2
                      have hp1 := turns_step ht1 hs1
                      have ht0 : (turn (hds 15 3610) 0 3610 (evC byref (evCall F S4 (m + 24)) (m + 24) 0 (hds 15) lbu15_0) p15_e6 [(.cells [(.d (.sl (.int .i64) x0.1)), (.d (.sl (.int .i64) x0.2))]), (.arr (.pair .str .str) ([] : List ((List UInt8) × (List UInt8))) true)]).run = some (.normal, p15_e13, [(.cells [(.d (.sl (.int .i64) x0.1)), (.d (.sl (.int .i64) x0.2))]), (.arr (.pair .str .str) ([] : List ((List UInt8) × (List UInt8))) true)]) := M.run_of_path _ [true, true, true, true, true, true, true, true, true, true, true, true, true, false] _ _ (by kernel_rfl) (all_t rfl (all_t rfl (all_t rfl (all_t c6 (all_t c6 (all_t c6 (all_t c6 (all_t rfl (all_t c6 (all_t c6 (all_t c6 (all_t c6 (all_t c6 (all_f c16 all_nil))))))))))))))
                      have hs0 : (turns (hds 15 3610) 0 3610 (evC byref (evCall F S4 (m + 24)) (m + 24) 0 (hds 15) lbu15_0) (m + 23) p15_e13 [(.cells [(.d (.sl (.int .i64) x0.1)), (.d (.sl (.int .i64) x0.2))]), (.arr (.pair .str .str) ([] : List ((List UInt8) × (List UInt8))) true)]).run = some (.exit 0, p15_e4, [(.cells [(.d (.sl (.int .i64) x0.1)), (.d (.sl (.int .i64) x0.2))]), (.arr (.pair .str .str) [(([99] : List UInt8), (p15_k3 x0))] true)]) := Eq.mp (by kernel_rfl) hp1
                      have hp0 := turns_step ht0 hs0
                      exact Eq.trans (Eq.mp (by kernel_rfl) hp0) hq
                    cases hp
                  · skip
                    cases h
                · skip
                  cases h
              · skip
                cases h
            · skip
              cases h
              refine ⟨(.d (.sl (.pair .str .str) ([] : List ((List UInt8) × (List UInt8))))), [], runT_ok (LS := (fun k => if k = 3610 then some (.exit 0, p15_e5, [(.cells [(.d (.sl (.int .i64) x0.1)), (.d (.sl (.int .i64) x0.2))]), (.arr (.pair .str .str) ([] : List ((List UInt8) × (List UInt8))) true)]) else none)) (fn := fn15) (vis := [(3610, p15_e6, [(.cells [(.d (.sl (.int .i64) x0.1)), (.d (.sl (.int .i64) x0.2))]), (.arr (.pair .str .str) ([] : List ((List UInt8) × (List UInt8))) true)])]) (by kernel_rfl) rfl (by kernel_rfl) (M.run_of_path _ [true, true, true, true] _ _ (by kernel_rfl) (all_t rfl (all_t rfl (all_t rfl (all_t rfl all_nil))))) ?_, by simp, (wkR.one (wkV.one (wk1.eq rfl))), trivial⟩
              intro p hp p2 hq
              rcases List.mem_cons.1 hp with rfl | hp
              · skip
                have ht3 : (turn (hds 15 3610) 0 3610 (evC byref (evCall F S4 (m + 24)) (m + 24) 0 (hds 15) lbu15_0) p15_e15 [(.cells [(.d (.sl (.int .i64) x0.1)), (.d (.sl (.int .i64) x0.2))]), (.arr (.pair .str .str) ([] : List ((List UInt8) × (List UInt8))) true)]).run = some (.exit 0, p15_e5, [(.cells [(.d (.sl (.int .i64) x0.1)), (.d (.sl (.int .i64) x0.2))]), (.arr (.pair .str .str) ([] : List ((List UInt8) × (List UInt8))) true)]) := M.run_of_path _ [false] _ _ (by kernel_rfl) (all_f Bool.false_ne_true all_nil)
                have hp3 := turns_last (n := m + 20) (by simp) ht3
                have ht2 : (turn (hds 15 3610) 0 3610 (evC byref (evCall F S4 (m + 24)) (m + 24) 0 (hds 15) lbu15_0) p15_e14 [(.cells [(.d (.sl (.int .i64) x0.1)), (.d (.sl (.int .i64) x0.2))]), (.arr (.pair .str .str) ([] : List ((List UInt8) × (List UInt8))) true)]).run = some (.normal, p15_e15, [(.cells [(.d (.sl (.int .i64) x0.1)), (.d (.sl (.int .i64) x0.2))]), (.arr (.pair .str .str) ([] : List ((List UInt8) × (List UInt8))) true)]) := M.run_of_path _ [true, true, true, true, true, true, true, true, true, true, true, true, true, false] _ _ (by kernel_rfl) (all_t rfl (all_t rfl (all_t rfl (all_t c34 (all_t c34 (all_t c34 (all_t c34 (all_t rfl (all_t c34 (all_t c34 (all_t c34 (all_t c34 (all_t c34 (all_f c44 all_nil))))))))))))))
                have hs2 : (turns (hds 15 3610) 0 3610 (evC byref (evCall F S4 (m + 24)) (m + 24) 0 (hds 15) lbu15_0) (m + 21) p15_e15 [(.cells [(.d (.sl (.int .i64) x0.1)), (.d (.sl (.int .i64) x0.2))]), (.arr (.pair .str .str) ([] : List ((List UInt8) × (List UInt8))) true)]).run = some (.exit 0, p15_e5, [(.cells [(.d (.sl (.int .i64) x0.1)), (.d (.sl (.int .i64) x0.2))]), (.arr (.pair .str .str) ([] : List ((List UInt8) × (List UInt8))) true)]) := Eq.mp (by kernel_rfl) hp3
                have hp2 := turns_step ht2 hs2
                have ht1 : (turn (hds 15 3610) 0 3610 (evC byref (evCall F S4 (m + 24)) (m + 24) 0 (hds 15) lbu15_0) p15_e13 [(.cells [(.d (.sl (.int .i64) x0.1)), (.d (.sl (.int .i64) x0.2))]), (.arr (.pair .str .str) ([] : List ((List UInt8) × (List UInt8))) true)]).run = some (.normal, p15_e14, [(.cells [(.d (.sl (.int .i64) x0.1)), (.d (.sl (.int .i64) x0.2))]), (.arr (.pair .str .str) ([] : List ((List UInt8) × (List UInt8))) true)]) := M.run_of_path _ [true, true, true, true, true, true, true, true, true, true, true, true, true, false] _ _ (by kernel_rfl) (all_t rfl (all_t rfl (all_t rfl (all_t c20 (all_t c20 (all_t c20 (all_t c20 (all_t rfl (all_t c20 (all_t c20 (all_t c20 (all_t c20 (all_t c20 (all_f c30 all_nil))))))))))))))
                have hs1 : (turns (hds 15 3610) 0 3610 (evC byref (evCall F S4 (m + 24)) (m + 24) 0 (hds 15) lbu15_0) (m + 22) p15_e14 [(.cells [(.d (.sl (.int .i64) x0.1)), (.d (.sl (.int .i64) x0.2))]), (.arr (.pair .str .str) ([] : List ((List UInt8) × (List UInt8))) true)]).run = some (.exit 0, p15_e5, [(.cells [(.d (.sl (.int .i64) x0.1)), (.d (.sl (.int .i64) x0.2))]), (.arr (.pair .str .str) ([] : List ((List UInt8) × (List UInt8))) true)]) := Eq.mp (by kernel_rfl) hp2
                have hp1 := turns_step ht1 hs1
                have ht0 : (turn (hds 15 3610) 0 3610 (evC byref (evCall F S4 (m + 24)) (m + 24) 0 (hds 15) lbu15_0) p15_e6 [(.cells [(.d (.sl (.int .i64) x0.1)), (.d (.sl (.int .i64) x0.2))]), (.arr (.pair .str .str) ([] : List ((List UInt8) × (List UInt8))) true)]).run = some (.normal, p15_e13, [(.cells [(.d (.sl (.int .i64) x0.1)), (.d (.sl (.int .i64) x0.2))]), (.arr (.pair .str .str) ([] : List ((List UInt8) × (List UInt8))) true)]) := M.run_of_path _ [true, true, true, true, true, true, true, true, true, true, true, true, true, false] _ _ (by kernel_rfl) (all_t rfl (all_t rfl (all_t rfl (all_t c6 (all_t c6 (all_t c6 (all_t c6 (all_t rfl (all_t c6 (all_t c6 (all_t c6 (all_t c6 (all_t c6 (all_f c16 all_nil))))))))))))))
                have hs0 : (turns (hds 15 3610) 0 3610 (evC byref (evCall F S4 (m + 24)) (m + 24) 0 (hds 15) lbu15_0) (m + 23) p15_e13 [(.cells [(.d (.sl (.int .i64) x0.1)), (.d (.sl (.int .i64) x0.2))]), (.arr (.pair .str .str) ([] : List ((List UInt8) × (List UInt8))) true)]).run = some (.exit 0, p15_e5, [(.cells [(.d (.sl (.int .i64) x0.1)), (.d (.sl (.int .i64) x0.2))]), (.arr (.pair .str .str) ([] : List ((List UInt8) × (List UInt8))) true)]) := Eq.mp (by kernel_rfl) hp1
                have hp0 := turns_step ht0 hs0
                exact Eq.trans (Eq.mp (by kernel_rfl) hp0) hq
              cases hp
          · skip
            cases h
            refine ⟨(.d (.sl (.pair .str .str) ([] : List ((List UInt8) × (List UInt8))))), [], runT_ok (LS := (fun k => if k = 3610 then some (.exit 0, p15_e5, [(.cells [(.d (.sl (.int .i64) x0.1)), (.d (.sl (.int .i64) x0.2))]), (.arr (.pair .str .str) ([] : List ((List UInt8) × (List UInt8))) true)]) else none)) (fn := fn15) (vis := [(3610, p15_e6, [(.cells [(.d (.sl (.int .i64) x0.1)), (.d (.sl (.int .i64) x0.2))]), (.arr (.pair .str .str) ([] : List ((List UInt8) × (List UInt8))) true)])]) (by kernel_rfl) rfl (by kernel_rfl) (M.run_of_path _ [true, true, true, true] _ _ (by kernel_rfl) (all_t rfl (all_t rfl (all_t rfl (all_t rfl all_nil))))) ?_, by simp, (wkR.one (wkV.one (wk1.eq rfl))), trivial⟩
            intro p hp p2 hq
            rcases List.mem_cons.1 hp with rfl | hp
            · skip
              have ht3 : (turn (hds 15 3610) 0 3610 (evC byref (evCall F S4 (m + 24)) (m + 24) 0 (hds 15) lbu15_0) p15_e15 [(.cells [(.d (.sl (.int .i64) x0.1)), (.d (.sl (.int .i64) x0.2))]), (.arr (.pair .str .str) ([] : List ((List UInt8) × (List UInt8))) true)]).run = some (.exit 0, p15_e5, [(.cells [(.d (.sl (.int .i64) x0.1)), (.d (.sl (.int .i64) x0.2))]), (.arr (.pair .str .str) ([] : List ((List UInt8) × (List UInt8))) true)]) := M.run_of_path _ [false] _ _ (by kernel_rfl) (all_f Bool.false_ne_true all_nil)
              have hp3 := turns_last (n := m + 20) (by simp) ht3
              have ht2 : (turn (hds 15 3610) 0 3610 (evC byref (evCall F S4 (m + 24)) (m + 24) 0 (hds 15) lbu15_0) p15_e14 [(.cells [(.d (.sl (.int .i64) x0.1)), (.d (.sl (.int .i64) x0.2))]), (.arr (.pair .str .str) ([] : List ((List UInt8) × (List UInt8))) true)]).run = some (.normal, p15_e15, [(.cells [(.d (.sl (.int .i64) x0.1)), (.d (.sl (.int .i64) x0.2))]), (.arr (.pair .str .str) ([] : List ((List UInt8) × (List UInt8))) true)]) := M.run_of_path _ [true, true, true, false, false, false, false, false, false, false, false, false] _ _ (by kernel_rfl) (all_t rfl (all_t rfl (all_t rfl (all_f c34 (all_f c34 (all_f c34 (all_f c34 (all_f c34 (all_f c34 (all_f c34 (all_f c34 (all_f Bool.false_ne_true all_nil))))))))))))
              have hs2 : (turns (hds 15 3610) 0 3610 (evC byref (evCall F S4 (m + 24)) (m + 24) 0 (hds 15) lbu15_0) (m + 21) p15_e15 [(.cells [(.d (.sl (.int .i64) x0.1)), (.d (.sl (.int .i64) x0.2))]), (.arr (.pair .str .str) ([] : List ((List UInt8) × (List UInt8))) true)]).run = some (.exit 0, p15_e5, [(.cells [(.d (.sl (.int .i64) x0.1)), (.d (.sl (.int .i64) x0.2))]), (.arr (.pair .str .str) ([] : List ((List UInt8) × (List UInt8))) true)]) := Eq.mp (by kernel_rfl) hp3
              have hp2 := turns_step ht2 hs2
              have ht1 : (turn (hds 15 3610) 0 3610 (evC byref (evCall F S4 (m + 24)) (m + 24) 0 (hds 15) lbu15_0) p15_e13 [(.cells [(.d (.sl (.int .i64) x0.1)), (.d (.sl (.int .i64) x0.2))]), (.arr (.pair .str .str) ([] : List ((List UInt8) × (List UInt8))) true)]).run = some (.normal, p15_e14, [(.cells [(.d (.sl (.int .i64) x0.1)), (.d (.sl (.int .i64) x0.2))]), (.arr (.pair .str .str) ([] : List ((List UInt8) × (List UInt8))) true)]) := M.run_of_path _ [true, true, true, true, true, true, true, true, true, true, true, true, true, false] _ _ (by kernel_rfl) (all_t rfl (all_t rfl (all_t rfl (all_t c20 (all_t c20 (all_t c20 (all_t c20 (all_t rfl (all_t c20 (all_t c20 (all_t c20 (all_t c20 (all_t c20 (all_f c30 all_nil))))))))))))))
              have hs1 : (turns (hds 15 3610) 0 3610 (evC byref (evCall F S4 (m + 24)) (m + 24) 0 (hds 15) lbu15_0) (m + 22) p15_e14 [(.cells [(.d (.sl (.int .i64) x0.1)), (.d (.sl (.int .i64) x0.2))]), (.arr (.pair .str .str) ([] : List ((List UInt8) × (List UInt8))) true)]).run = some (.exit 0, p15_e5, [(.cells [(.d (.sl (.int .i64) x0.1)), (.d (.sl (.int .i64) x0.2))]), (.arr (.pair .str .str) ([] : List ((List UInt8) × (List UInt8))) true)]) := Eq.mp (by kernel_rfl) hp2
              have hp1 := turns_step ht1 hs1
              have ht0 : (turn (hds 15 3610) 0 3610 (evC byref (evCall F S4 (m + 24)) (m + 24) 0 (hds 15) lbu15_0) p15_e6 [(.cells [(.d (.sl (.int .i64) x0.1)), (.d (.sl (.int .i64) x0.2))]), (.arr (.pair .str .str) ([] : List ((List UInt8) × (List UInt8))) true)]).run = some (.normal, p15_e13, [(.cells [(.d (.sl (.int .i64) x0.1)), (.d (.sl (.int .i64) x0.2))]), (.arr (.pair .str .str) ([] : List ((List UInt8) × (List UInt8))) true)]) := M.run_of_path _ [true, true, true, true, true, true, true, true, true, true, true, true, true, false] _ _ (by kernel_rfl) (all_t rfl (all_t rfl (all_t rfl (all_t c6 (all_t c6 (all_t c6 (all_t c6 (all_t rfl (all_t c6 (all_t c6 (all_t c6 (all_t c6 (all_t c6 (all_f c16 all_nil))))))))))))))
              have hs0 : (turns (hds 15 3610) 0 3610 (evC byref (evCall F S4 (m + 24)) (m + 24) 0 (hds 15) lbu15_0) (m + 23) p15_e13 [(.cells [(.d (.sl (.int .i64) x0.1)), (.d (.sl (.int .i64) x0.2))]), (.arr (.pair .str .str) ([] : List ((List UInt8) × (List UInt8))) true)]).run = some (.exit 0, p15_e5, [(.cells [(.d (.sl (.int .i64) x0.1)), (.d (.sl (.int .i64) x0.2))]), (.arr (.pair .str .str) ([] : List ((List UInt8) × (List UInt8))) true)]) := Eq.mp (by kernel_rfl) hp1
              have hp0 := turns_step ht0 hs0
              exact Eq.trans (Eq.mp (by kernel_rfl) hp0) hq
            cases hp
      · skip
        refine ite_cases h (fun c32 h => ?_) (fun c32 h => ?_)
        · skip
          refine ite_cases h (fun c42 h => ?_) (fun c42 h => ?_)
          · skip
            refine ite_cases h (fun c43 h => ?_) (fun c43 h => ?_)
            · skip
              refine ite_cases h (fun c45 h => ?_) (fun c45 h => ?_)
              · skip
                refine ite_cases h (fun c46 h => ?_) (fun c46 h => ?_)
                · skip
                  cases h
                  refine ⟨(.d (.sl (.pair .str .str) [(([99] : List UInt8), (p15_k3 x0))])), [], runT_ok (LS := (fun k => if k = 3610 then some (.exit 0, p15_e4, [(.cells [(.d (.sl (.int .i64) x0.1)), (.d (.sl (.int .i64) x0.2))]), (.arr (.pair .str .str) [(([99] : List UInt8), (p15_k3 x0))] true)]) else none)) (fn := fn15) (vis := [(3610, p15_e6, [(.cells [(.d (.sl (.int .i64) x0.1)), (.d (.sl (.int .i64) x0.2))]), (.arr (.pair .str .str) ([] : List ((List UInt8) × (List UInt8))) true)])]) (by kernel_rfl) rfl (by kernel_rfl) (M.run_of_path _ [true, true, true, true] _ _ (by kernel_rfl) (all_t rfl (all_t rfl (all_t rfl (all_t rfl all_nil))))) ?_, by simp, (wkR.one (wkV.one (wk1.eq rfl))), trivial⟩
                  intro p hp p2 hq
                  rcases List.mem_cons.1 hp with rfl | hp
                  · skip
                    have ht3 : (turn (hds 15 3610) 0 3610 (evC byref (evCall F S4 (m + 24)) (m + 24) 0 (hds 15) lbu15_0) p15_e12 [(.cells [(.d (.sl (.int .i64) x0.1)), (.d (.sl (.int .i64) x0.2))]), (.arr (.pair .str .str) [(([99] : List UInt8), (p15_k3 x0))] true)]).run = some (.exit 0, p15_e4, [(.cells [(.d (.sl (.int .i64) x0.1)), (.d (.sl (.int .i64) x0.2))]), (.arr (.pair .str .str) [(([99] : List UInt8), (p15_k3 x0))] true)]) := M.run_of_path _ [false] _ _ (by kernel_rfl) (all_f Bool.false_ne_true all_nil)
                    have hp3 := turns_last (n := m + 20) (by simp) ht3
                    have ht2 : (turn (hds 15 3610) 0 3610 (evC byref (evCall F S4 (m + 24)) (m + 24) 0 (hds 15) lbu15_0) p15_e14 [(.cells [(.d (.sl (.int .i64) x0.1)), (.d (.sl (.int .i64) x0.2))]), (.arr (.pair .str .str) ([] : List ((List UInt8) × (List UInt8))) true)]).run = some (.normal, p15_e12, [(.cells [(.d (.sl (.int .i64) x0.1)), (.d (.sl (.int .i64) x0.2))]), (.arr (.pair .str .str) [(([99] : List UInt8), (p15_k3 x0))] true)]) := M.run_of_path _ [true, true, true, true, true, true, true, true, true, true, true, true, true, true, true, true, true, true, true, true, true] _ _ (by kernel_rfl) (all_t rfl (all_t rfl (all_t rfl (all_t c32 (all_t c32 (all_t c32 (all_t c32 (all_t rfl (all_t c32 (all_t c32 (all_t c32 (all_t c32 (all_t c32 (all_t c42 (all_t c43 (all_t rfl (all_t c45 (all_t c46 (all_t rfl (all_t rfl (all_t rfl all_nil)))))))))))))))))))))
                    have hs2 : (turns (hds 15 3610) 0 3610 (evC byref (evCall F S4 (m + 24)) (m + 24) 0 (hds 15) lbu15_0) (m + 21) p15_e12 [(.cells [(.d (.sl (.int .i64) x0.1)), (.d (.sl (.int .i64) x0.2))]), (.arr (.pair .str .str) [(([99] : List UInt8), (p15_k3 x0))] true)]).run = some (.exit 0, p15_e4, [(.cells [(.d (.sl (.int .i64) x0.1)), (.d (.sl (.int .i64) x0.2))]), (.arr (.pair .str .str) [(([99] : List UInt8), (p15_k3 x0))] true)]) := Eq.mp (by kernel_rfl) hp3
                    have hp2 := turns_step ht2 hs2
                    have ht1 : (turn (hds 15 3610) 0 3610 (evC byref (evCall F S4 (m + 24)) (m + 24) 0 (hds 15) lbu15_0) p15_e13 [(.cells [(.d (.sl (.int .i64) x0.1)), (.d (.sl (.int .i64) x0.2))]), (.arr (.pair .str .str) ([] : List ((List UInt8) × (List UInt8))) true)]).run = some (.normal, p15_e14, [(.cells [(.d (.sl (.int .i64) x0.1)), (.d (.sl (.int .i64) x0.2))]), (.arr (.pair .str .str) ([] : List ((List UInt8) × (List UInt8))) true)]) := M.run_of_path _ [true, true, true, false, false, false, false, false, false, false, false, false] _ _ (by kernel_rfl) (all_t rfl (all_t rfl (all_t rfl (all_f c20 (all_f c20 (all_f c20 (all_f c20 (all_f c20 (all_f c20 (all_f c20 (all_f c20 (all_f Bool.false_ne_true all_nil))))))))))))
                    have hs1 : (turns (hds 15 3610) 0 3610 (evC byref (evCall F S4 (m + 24)) (m + 24) 0 (hds 15) lbu15_0) (m + 22) p15_e14 [(.cells [(.d (.sl (.int .i64) x0.1)), (.d (.sl (.int .i64) x0.2))]), (.arr (.pair .str .str) ([] : List ((List UInt8) × (List UInt8))) true)]).run = some (.exit 0, p15_e4, [(.cells [(.d (.sl (.int .i64) x0.1)), (.d (.sl (.int .i64) x0.2))]), (.arr (.pair .str .str) [(([99] : List UInt8), (p15_k3 x0))] true)]) := Eq.mp (by kernel_rfl) hp2
                    have hp1 := turns_step ht1 hs1
                    have ht0 : (turn (hds 15 3610) 0 3610 (evC byref (evCall F S4 (m + 24)) (m + 24) 0 (hds 15) lbu15_0) p15_e6 [(.cells [(.d (.sl (.int .i64) x0.1)), (.d (.sl (.int .i64) x0.2))]), (.arr (.pair .str .str) ([] : List ((List UInt8) × (List UInt8))) true)]).run = some (.normal, p15_e13, [(.cells [(.d (.sl (.int .i64) x0.1)), (.d (.sl (.int .i64) x0.2))]), (.arr (.pair .str .str) ([] : List ((List UInt8) × (List UInt8))) true)]) := M.run_of_path _ [true, true, true, true, true, true, true, true, true, true, true, true, true, false] _ _ (by kernel_rfl) (all_t rfl (all_t rfl (all_t rfl (all_t c6 (all_t c6 (all_t c6 (all_t c6 (all_t rfl (all_t c6 (all_t c6 (all_t c6 (all_t c6 (all_t c6 (all_f c16 all_nil))))))))))))))
                    have hs0 : (turns (hds 15 3610) 0 3610 (evC byref (evCall F S4 (m + 24)) (m + 24) 0 (hds 15) lbu15_0) (m + 23) p15_e13 [(.cells [(.d (.sl (.int .i64) x0.1)), (.d (.sl (.int .i64) x0.2))]), (.arr (.pair .str .str) ([] : List ((List UInt8) × (List UInt8))) true)]).run = some (.exit 0, p15_e4, [(.cells [(.d (.sl (.int .i64) x0.1)), (.d (.sl (.int .i64) x0.2))]), (.arr (.pair .str .str) [(([99] : List UInt8), (p15_k3 x0))] true)]) := Eq.mp (by kernel_rfl) hp1
                    have hp0 := turns_step ht0 hs0
                    exact Eq.trans (Eq.mp (by kernel_rfl) hp0) hq
                  cases hp
                · skip
                  cases h
              · skip
                cases h
            · skip
              cases h
          · skip
            cases h
            refine ⟨(.d (.sl (.pair .str .str) ([] : List ((List UInt8) × (List UInt8))))), [], runT_ok (LS := (fun k => if k = 3610 then some (.exit 0, p15_e5, [(.cells [(.d (.sl (.int .i64) x0.1)), (.d (.sl (.int .i64) x0.2))]), (.arr (.pair .str .str) ([] : List ((List UInt8) × (List UInt8))) true)]) else none)) (fn := fn15) (vis := [(3610, p15_e6, [(.cells [(.d (.sl (.int .i64) x0.1)), (.d (.sl (.int .i64) x0.2))]), (.arr (.pair .str .str) ([] : List ((List UInt8) × (List UInt8))) true)])]) (by kernel_rfl) rfl (by kernel_rfl) (M.run_of_path _ [true, true, true, true] _ _ (by kernel_rfl) (all_t rfl (all_t rfl (all_t rfl (all_t rfl all_nil))))) ?_, by simp, (wkR.one (wkV.one (wk1.eq rfl))), trivial⟩
            intro p hp p2 hq
            rcases List.mem_cons.1 hp with rfl | hp
            · skip
              have ht3 : (turn (hds 15 3610) 0 3610 (evC byref (evCall F S4 (m + 24)) (m + 24) 0 (hds 15) lbu15_0) p15_e15 [(.cells [(.d (.sl (.int .i64) x0.1)), (.d (.sl (.int .i64) x0.2))]), (.arr (.pair .str .str) ([] : List ((List UInt8) × (List UInt8))) true)]).run = some (.exit 0, p15_e5, [(.cells [(.d (.sl (.int .i64) x0.1)), (.d (.sl (.int .i64) x0.2))]), (.arr (.pair .str .str) ([] : List ((List UInt8) × (List UInt8))) true)]) := M.run_of_path _ [false] _ _ (by kernel_rfl) (all_f Bool.false_ne_true all_nil)
              have hp3 := turns_last (n := m + 20) (by simp) ht3
              have ht2 : (turn (hds 15 3610) 0 3610 (evC byref (evCall F S4 (m + 24)) (m + 24) 0 (hds 15) lbu15_0) p15_e14 [(.cells [(.d (.sl (.int .i64) x0.1)), (.d (.sl (.int .i64) x0.2))]), (.arr (.pair .str .str) ([] : List ((List UInt8) × (List UInt8))) true)]).run = some (.normal, p15_e15, [(.cells [(.d (.sl (.int .i64) x0.1)), (.d (.sl (.int .i64) x0.2))]), (.arr (.pair .str .str) ([] : List ((List UInt8) × (List UInt8))) true)]) := M.run_of_path _ [true, true, true, true, true, true, true, true, true, true, true, true, true, false] _ _ (by kernel_rfl) (all_t rfl (all_t rfl (all_t rfl (all_t c32 (all_t c32 (all_t c32 (all_t c32 (all_t rfl (all_t c32 (all_t c32 (all_t c32 (all_t c32 (all_t c32 (all_f c42 all_nil))))))))))))))
              have hs2 : (turns (hds 15 3610) 0 3610 (evC byref (evCall F S4 (m + 24)) (m + 24) 0 (hds 15) lbu15_0) (m + 21) p15_e15 [(.cells [(.d (.sl (.int .i64) x0.1)), (.d (.sl (.int .i64) x0.2))]), (.arr (.pair .str .str) ([] : List ((List UInt8) × (List UInt8))) true)]).run = some (.exit 0, p15_e5, [(.cells [(.d (.sl (.int .i64) x0.1)), (.d (.sl (.int .i64) x0.2))]), (.arr (.pair .str .str) ([] : List ((List UInt8) × (List UInt8))) true)]) := Eq.mp (by kernel_rfl) hp3
              have hp2 := turns_step ht2 hs2
              have ht1 : (turn (hds 15 3610) 0 3610 (evC byref (evCall F S4 (m + 24)) (m + 24) 0 (hds 15) lbu15_0) p15_e13 [(.cells [(.d (.sl (.int .i64) x0.1)), (.d (.sl (.int .i64) x0.2))]), (.arr (.pair .str .str) ([] : List ((List UInt8) × (List UInt8))) true)]).run = some (.normal, p15_e14, [(.cells [(.d (.sl (.int .i64) x0.1)), (.d (.sl (.int .i64) x0.2))]), (.arr (.pair .str .str) ([] : List ((List UInt8) × (List UInt8))) true)]) := M.run_of_path _ [true, true, true, false, false, false, false, false, false, false, false, false] _ _ (by kernel_rfl) (all_t rfl (all_t rfl (all_t rfl (all_f c20 (all_f c20 (all_f c20 (all_f c20 (all_f c20 (all_f c20 (all_f c20 (all_f c20 (all_f Bool.false_ne_true all_nil))))))))))))
              have hs1 : (turns (hds 15 3610) 0 3610 (evC byref (evCall F S4 (m + 24)) (m + 24) 0 (hds 15) lbu15_0) (m + 22) p15_e14 [(.cells [(.d (.sl (.int .i64) x0.1)), (.d (.sl (.int .i64) x0.2))]), (.arr (.pair .str .str) ([] : List ((List UInt8) × (List UInt8))) true)]).run = some (.exit 0, p15_e5, [(.cells [(.d (.sl (.int .i64) x0.1)), (.d (.sl (.int .i64) x0.2))]), (.arr (.pair .str .str) ([] : List ((List UInt8) × (List UInt8))) true)]) := Eq.mp (by kernel_rfl) hp2
              have hp1 := turns_step ht1 hs1
              have ht0 : (turn (hds 15 3610) 0 3610 (evC byref (evCall F S4 (m + 24)) (m + 24) 0 (hds 15) lbu15_0) p15_e6 [(.cells [(.d (.sl (.int .i64) x0.1)), (.d (.sl (.int .i64) x0.2))]), (.arr (.pair .str .str) ([] : List ((List UInt8) × (List UInt8))) true)]).run = some (.normal, p15_e13, [(.cells [(.d (.sl (.int .i64) x0.1)), (.d (.sl (.int .i64) x0.2))]), (.arr (.pair .str .str) ([] : List ((List UInt8) × (List UInt8))) true)]) := M.run_of_path _ [true, true, true, true, true, true, true, true, true, true, true, true, true, false] _ _ (by kernel_rfl) (all_t rfl (all_t rfl (all_t rfl (all_t c6 (all_t c6 (all_t c6 (all_t c6 (all_t rfl (all_t c6 (all_t c6 (all_t c6 (all_t c6 (all_t c6 (all_f c16 all_nil))))))))))))))
              have hs0 : (turns (hds 15 3610) 0 3610 (evC byref (evCall F S4 (m + 24)) (m + 24) 0 (hds 15) lbu15_0) (m + 23) p15_e13 [(.cells [(.d (.sl (.int .i64) x0.1)), (.d (.sl (.int .i64) x0.2))]), (.arr (.pair .str .str) ([] : List ((List UInt8) × (List UInt8))) true)]).run = some (.exit 0, p15_e5, [(.cells [(.d (.sl (.int .i64) x0.1)), (.d (.sl (.int .i64) x0.2))]), (.arr (.pair .str .str) ([] : List ((List UInt8) × (List UInt8))) true)]) := Eq.mp (by kernel_rfl) hp1
              have hp0 := turns_step ht0 hs0
              exact Eq.trans (Eq.mp (by kernel_rfl) hp0) hq
            cases hp
        · skip
          cases h
          refine ⟨(.d (.sl (.pair .str .str) ([] : List ((List UInt8) × (List UInt8))))), [], runT_ok (LS := (fun k => if k = 3610 then some (.exit 0, p15_e5, [(.cells [(.d (.sl (.int .i64) x0.1)), (.d (.sl (.int .i64) x0.2))]), (.arr (.pair .str .str) ([] : List ((List UInt8) × (List UInt8))) true)]) else none)) (fn := fn15) (vis := [(3610, p15_e6, [(.cells [(.d (.sl (.int .i64) x0.1)), (.d (.sl (.int .i64) x0.2))]), (.arr (.pair .str .str) ([] : List ((List UInt8) × (List UInt8))) true)])]) (by kernel_rfl) rfl (by kernel_rfl) (M.run_of_path _ [true, true, true, true] _ _ (by kernel_rfl) (all_t rfl (all_t rfl (all_t rfl (all_t rfl all_nil))))) ?_, by simp, (wkR.one (wkV.one (wk1.eq rfl))), trivial⟩
          intro p hp p2 hq
          rcases List.mem_cons.1 hp with rfl | hp
          · skip
            have ht3 : (turn (hds 15 3610) 0 3610 (evC byref (evCall F S4 (m + 24)) (m + 24) 0 (hds 15) lbu15_0) p15_e15 [(.cells [(.d (.sl (.int .i64) x0.1)), (.d (.sl (.int .i64) x0.2))]), (.arr (.pair .str .str) ([] : List ((List UInt8) × (List UInt8))) true)]).run = some (.exit 0, p15_e5, [(.cells [(.d (.sl (.int .i64) x0.1)), (.d (.sl (.int .i64) x0.2))]), (.arr (.pair .str .str) ([] : List ((List UInt8) × (List UInt8))) true)]) := M.run_of_path _ [false] _ _ (by kernel_rfl) (all_f Bool.false_ne_true all_nil)
            have hp3 := turns_last (n := m + 20) (by simp) ht3
            have ht2 : (turn (hds 15 3610) 0 3610 (evC byref (evCall F S4 (m + 24)) (m + 24) 0 (hds 15) lbu15_0) p15_e14 [(.cells [(.d (.sl (.int .i64) x0.1)), (.d (.sl (.int .i64) x0.2))]), (.arr (.pair .str .str) ([] : List ((List UInt8) × (List UInt8))) true)]).run = some (.normal, p15_e15, [(.cells [(.d (.sl (.int .i64) x0.1)), (.d (.sl (.int .i64) x0.2))]), (.arr (.pair .str .str) ([] : List ((List UInt8) × (List UInt8))) true)]) := M.run_of_path _ [true, true, true, false, false, false, false, false, false, false, false, false] _ _ (by kernel_rfl) (all_t rfl (all_t rfl (all_t rfl (all_f c32 (all_f c32 (all_f c32 (all_f c32 (all_f c32 (all_f c32 (all_f c32 (all_f c32 (all_f Bool.false_ne_true all_nil))))))))))))
            have hs2 : (turns (hds 15 3610) 0 3610 (evC byref (evCall F S4 (m + 24)) (m + 24) 0 (hds 15) lbu15_0) (m + 21) p15_e15 [(.cells [(.d (.sl (.int .i64) x0.1)), (.d (.sl (.int .i64) x0.2))]), (.arr (.pair .str .str) ([] : List ((List UInt8) × (List UInt8))) true)]).run = some (.exit 0, p15_e5, [(.cells [(.d (.sl (.int .i64) x0.1)), (.d (.sl (.int .i64) x0.2))]), (.arr (.pair .str .str) ([] : List ((List UInt8) × (List UInt8))) true)]) := Eq.mp (by kernel_rfl) hp3
            have hp2 := turns_step ht2 hs2
            have ht1 : (turn (hds 15 3610) 0 3610 (evC byref (evCall F S4 (m + 24)) (m + 24) 0 (hds 15) lbu15_0) p15_e13 [(.cells [(.d (.sl (.int .i64) x0.1)), (.d (.sl (.int .i64) x0.2))]), (.arr (.pair .str .str) ([] : List ((List UInt8) × (List UInt8))) true)]).run = some (.normal, p15_e14, [(.cells [(.d (.sl (.int .i64) x0.1)), (.d (.sl (.int .i64) x0.2))]), (.arr (.pair .str .str) ([] : List ((List UInt8) × (List UInt8))) true)]) := M.run_of_path _ [true, true, true, false, false, false, false, false, false, false, false, false] _ _ (by kernel_rfl) (all_t rfl (all_t rfl (all_t rfl (all_f c20 (all_f c20 (all_f c20 (all_f c20 (all_f c20 (all_f c20 (all_f c20 (all_f c20 (all_f Bool.false_ne_true all_nil))))))))))))
            have hs1 : (turns (hds 15 3610) 0 3610 (evC byref (evCall F S4 (m + 24)) (m + 24) 0 (hds 15) lbu15_0) (m + 22) p15_e14 [(.cells [(.d (.sl (.int .i64) x0.1)), (.d (.sl (.int .i64) x0.2))]), (.arr (.pair .str .str) ([] : List ((List UInt8) × (List UInt8))) true)]).run = some (.exit 0, p15_e5, [(.cells [(.d (.sl (.int .i64) x0.1)), (.d (.sl (.int .i64) x0.2))]), (.arr (.pair .str .str) ([] : List ((List UInt8) × (List UInt8))) true)]) := Eq.mp (by kernel_rfl) hp2
            have hp1 := turns_step ht1 hs1
            have ht0 : (turn (hds 15 3610) 0 3610 (evC byref (evCall F S4 (m + 24)) (m + 24) 0 (hds 15) lbu15_0) p15_e6 [(.cells [(.d (.sl (.int .i64) x0.1)), (.d (.sl (.int .i64) x0.2))]), (.arr (.pair .str .str) ([] : List ((List UInt8) × (List UInt8))) true)]).run = some (.normal, p15_e13, [(.cells [(.d (.sl (.int .i64) x0.1)), (.d (.sl (.int .i64) x0.2))]), (.arr (.pair .str .str) ([] : List ((List UInt8) × (List UInt8))) true)]) := M.run_of_path _ [true, true, true, true, true, true, true, true, true, true, true, true, true, false] _ _ (by kernel_rfl) (all_t rfl (all_t rfl (all_t rfl (all_t c6 (all_t c6 (all_t c6 (all_t c6 (all_t rfl (all_t c6 (all_t c6 (all_t c6 (all_t c6 (all_t c6 (all_f c16 all_nil))))))))))))))
            have hs0 : (turns (hds 15 3610) 0 3610 (evC byref (evCall F S4 (m + 24)) (m + 24) 0 (hds 15) lbu15_0) (m + 23) p15_e13 [(.cells [(.d (.sl (.int .i64) x0.1)), (.d (.sl (.int .i64) x0.2))]), (.arr (.pair .str .str) ([] : List ((List UInt8) × (List UInt8))) true)]).run = some (.exit 0, p15_e5, [(.cells [(.d (.sl (.int .i64) x0.1)), (.d (.sl (.int .i64) x0.2))]), (.arr (.pair .str .str) ([] : List ((List UInt8) × (List UInt8))) true)]) := Eq.mp (by kernel_rfl) hp1
            have hp0 := turns_step ht0 hs0
            exact Eq.trans (Eq.mp (by kernel_rfl) hp0) hq
          cases hp
  · skip
    refine ite_cases h (fun c18 h => ?_) (fun c18 h => ?_)
    · skip
      refine ite_cases h (fun c28 h => ?_) (fun c28 h => ?_)
      · skip
        refine ite_cases h (fun c29 h => ?_) (fun c29 h => ?_)
        · skip
          refine ite_cases h (fun c31 h => ?_) (fun c31 h => ?_)
          · skip
            refine ite_cases h (fun c32 h => ?_) (fun c32 h => ?_)
            · skip
              refine ite_cases h (fun c39 h => ?_) (fun c39 h => ?_)
              · skip
                refine ite_cases h (fun c49 h => ?_) (fun c49 h => ?_)
                · skip
                  refine ite_cases h (fun c50 h => ?_) (fun c50 h => ?_)
                  · skip
                    refine ite_cases h (fun c52 h => ?_) (fun c52 h => ?_)
                    · skip
                      refine ite_cases h (fun c53 h => ?_) (fun c53 h => ?_)
                      · skip
                        cases h
                        refine ⟨(.d (.sl (.pair .str .str) [(([98] : List UInt8), (p15_k2 x0)), (([99] : List UInt8), (p15_k3 x0))])), [], runT_ok (LS := (fun k => if k = 3610 then some (.exit 0, p15_e3, [(.cells [(.d (.sl (.int .i64) x0.1)), (.d (.sl (.int .i64) x0.2))]), (.arr (.pair .str .str) [(([98] : List UInt8), (p15_k2 x0)), (([99] : List UInt8), (p15_k3 x0))] true)]) else none)) (fn := fn15) (vis := [(3610, p15_e6, [(.cells [(.d (.sl (.int .i64) x0.1)), (.d (.sl (.int .i64) x0.2))]), (.arr (.pair .str .str) ([] : List ((List UInt8) × (List UInt8))) true)])]) (by kernel_rfl) rfl (by kernel_rfl) (M.run_of_path _ [true, true, true, true] _ _ (by kernel_rfl) (all_t rfl (all_t rfl (all_t rfl (all_t rfl all_nil))))) ?_, by simp, (wkR.one (wkV.one (wk1.eq rfl))), trivial⟩
                        intro p hp p2 hq
                        rcases List.mem_cons.1 hp with rfl | hp
                        · skip
                          have ht3 : (turn (hds 15 3610) 0 3610 (evC byref (evCall F S4 (m + 24)) (m + 24) 0 (hds 15) lbu15_0) p15_e10 [(.cells [(.d (.sl (.int .i64) x0.1)), (.d (.sl (.int .i64) x0.2))]), (.arr (.pair .str .str) [(([98] : List UInt8), (p15_k2 x0)), (([99] : List UInt8), (p15_k3 x0))] true)]).run = some (.exit 0, p15_e3, [(.cells [(.d (.sl (.int .i64) x0.1)), (.d (.sl (.int .i64) x0.2))]), (.arr (.pair .str .str) [(([98] : List UInt8), (p15_k2 x0)), (([99] : List UInt8), (p15_k3 x0))] true)]) := M.run_of_path _ [false] _ _ (by kernel_rfl) (all_f Bool.false_ne_true all_nil)
                          have hp3 := turns_last (n := m + 20) (by simp) ht3
                          have ht2 : (turn (hds 15 3610) 0 3610 (evC byref (evCall F S4 (m + 24)) (m + 24) 0 (hds 15) lbu15_0) p15_e11 [(.cells [(.d (.sl (.int .i64) x0.1)), (.d (.sl (.int .i64) x0.2))]), (.arr (.pair .str .str) [(([98] : List UInt8), (p15_k2 x0))] true)]).run = some (.normal, p15_e10, [(.cells [(.d (.sl (.int .i64) x0.1)), (.d (.sl (.int .i64) x0.2))]), (.arr (.pair .str .str) [(([98] : List UInt8), (p15_k2 x0)), (([99] : List UInt8), (p15_k3 x0))] true)]) := M.run_of_path _ [true, true, true, true, true, true, true, true, true, true, true, true, true, true, true, true, true, true, true, true, true] _ _ (by kernel_rfl) (all_t rfl (all_t rfl (all_t rfl (all_t c39 (all_t c39 (all_t c39 (all_t c39 (all_t rfl (all_t c39 (all_t c39 (all_t c39 (all_t c39 (all_t c39 (all_t c49 (all_t c50 (all_t rfl (all_t c52 (all_t c53 (all_t rfl (all_t rfl (all_t rfl all_nil)))))))))))))))))))))
                          have hs2 : (turns (hds 15 3610) 0 3610 (evC byref (evCall F S4 (m + 24)) (m + 24) 0 (hds 15) lbu15_0) (m + 21) p15_e10 [(.cells [(.d (.sl (.int .i64) x0.1)), (.d (.sl (.int .i64) x0.2))]), (.arr (.pair .str .str) [(([98] : List UInt8), (p15_k2 x0)), (([99] : List UInt8), (p15_k3 x0))] true)]).run = some (.exit 0, p15_e3, [(.cells [(.d (.sl (.int .i64) x0.1)), (.d (.sl (.int .i64) x0.2))]), (.arr (.pair .str .str) [(([98] : List UInt8), (p15_k2 x0)), (([99] : List UInt8), (p15_k3 x0))] true)]) := Eq.mp (by kernel_rfl) hp3
                          have hp2 := turns_step ht2 hs2
                          have ht1 : (turn (hds 15 3610) 0 3610 (evC byref (evCall F S4 (m + 24)) (m + 24) 0 (hds 15) lbu15_0) p15_e13 [(.cells [(.d (.sl (.int .i64) x0.1)), (.d (.sl (.int .i64) x0.2))]), (.arr (.pair .str .str) ([] : List ((List UInt8) × (List UInt8))) true)]).run = some (.normal, p15_e11, [(.cells [(.d (.sl (.int .i64) x0.1)), (.d (.sl (.int .i64) x0.2))]), (.arr (.pair .str .str) [(([98] : List UInt8), (p15_k2 x0))] true)]) := M.run_of_path _ [true, true, true, true, true, true, true, true, true, true, true, true, true, true, true, true, true, true, true, true, true] _ _ (by kernel_rfl) (all_t rfl (all_t rfl (all_t rfl (all_t c18 (all_t c18 (all_t c18 (all_t c18 (all_t rfl (all_t c18 (all_t c18 (all_t c18 (all_t c18 (all_t c18 (all_t c28 (all_t c29 (all_t rfl (all_t c31 (all_t c32 (all_t rfl (all_t rfl (all_t rfl all_nil)))))))))))))))))))))
                          have hs1 : (turns (hds 15 3610) 0 3610 (evC byref (evCall F S4 (m + 24)) (m + 24) 0 (hds 15) lbu15_0) (m + 22) p15_e11 [(.cells [(.d (.sl (.int .i64) x0.1)), (.d (.sl (.int .i64) x0.2))]), (.arr (.pair .str .str) [(([98] : List UInt8), (p15_k2 x0))] true)]).run = some (.exit 0, p15_e3, [(.cells [(.d (.sl (.int .i64) x0.1)), (.d (.sl (.int .i64) x0.2))]), (.arr (.pair .str .str) [(([98] : List UInt8), (p15_k2 x0)), (([99] : List UInt8), (p15_k3 x0))] true)]) := Eq.mp (by kernel_rfl) hp2
                          have hp1 := turns_step ht1 hs1
                          have ht0 : (turn (hds 15 3610) 0 3610 (evC byref (evCall F S4 (m + 24)) (m + 24) 0 (hds 15) lbu15_0) p15_e6 [(.cells [(.d (.sl (.int .i64) x0.1)), (.d (.sl (.int .i64) x0.2))]), (.arr (.pair .str .str) ([] : List ((List UInt8) × (List UInt8))) true)]).run = some (.normal, p15_e13, [(.cells [(.d (.sl (.int .i64) x0.1)), (.d (.sl (.int .i64) x0.2))]), (.arr (.pair .str .str) ([] : List ((List UInt8) × (List UInt8))) true)]) := M.run_of_path _ [true, true, true, false, false, false, false, false, false, false, false, false] _ _ (by kernel_rfl) (all_t rfl (all_t rfl (all_t rfl (all_f c6 (all_f c6 (all_f c6 (all_f c6 (all_f c6 (all_f c6 (all_f c6 (all_f c6 (all_f Bool.false_ne_true all_nil))))))))))))
                          have hs0 : (turns (hds 15 3610) 0 3610 (evC byref (evCall F S4 (m + 24)) (m + 24) 0 (hds 15) lbu15_0) (m + 23) p15_e13 [(.cells [(.d (.sl (.int .i64) x0.1)), (.d (.sl (.int .i64) x0.2))]), (.arr (.pair .str .str) ([] : List ((List UInt8) × (List UInt8))) true)]).run = some (.exit 0, p15_e3, [(.cells [(.d (.sl (.int .i64) x0.1)), (.d (.sl (.int .i64) x0.2))]), (.arr (.pair .str .str) [(([98] : List UInt8), (p15_k2 x0)), (([99] : List UInt8), (p15_k3 x0))] true)]) := Eq.mp (by kernel_rfl) hp1
                          have hp0 := turns_step ht0 hs0
                          exact Eq.trans (Eq.mp (by kernel_rfl) hp0) hq
                        cases hp
                      · skip
                        cases h
                    · skip
                      cases h
                  · skip
                    cases h
                · skip
                  cases h
                  refine ⟨(.d (.sl (.pair .str .str) [(([98] : List UInt8), (p15_k2 x0))])), [], runT_ok (LS := (fun k => if k = 3610 then some (.exit 0, p15_e4, [(.cells [(.d (.sl (.int .i64) x0.1)), (.d (.sl (.int .i64) x0.2))]), (.arr (.pair .str .str) [(([98] : List UInt8), (p15_k2 x0))] true)]) else none)) (fn := fn15) (vis := [(3610, p15_e6, [(.cells [(.d (.sl (.int .i64) x0.1)), (.d (.sl (.int .i64) x0.2))]), (.arr (.pair .str .str) ([] : List ((List UInt8) × (List UInt8))) true)])]) (by kernel_rfl) rfl (by kernel_rfl) (M.run_of_path _ [true, true, true, true] _ _ (by kernel_rfl) (all_t rfl (all_t rfl (all_t rfl (all_t rfl all_nil))))) ?_, by simp, (wkR.one (wkV.one (wk1.eq rfl))), trivial⟩
                  intro p hp p2 hq
                  rcases List.mem_cons.1 hp with rfl | hp
                  · skip
                    have ht3 : (turn (hds 15 3610) 0 3610 (evC byref (evCall F S4 (m + 24)) (m + 24) 0 (hds 15) lbu15_0) p15_e12 [(.cells [(.d (.sl (.int .i64) x0.1)), (.d (.sl (.int .i64) x0.2))]), (.arr (.pair .str .str) [(([98] : List UInt8), (p15_k2 x0))] true)]).run = some (.exit 0, p15_e4, [(.cells [(.d (.sl (.int .i64) x0.1)), (.d (.sl (.int .i64) x0.2))]), (.arr (.pair .str .str) [(([98] : List UInt8), (p15_k2 x0))] true)]) := M.run_of_path _ [false] _ _ (by kernel_rfl) (all_f Bool.false_ne_true all_nil)
                    have hp3 := turns_last (n := m + 20) (by simp) ht3
                    have ht2 : (turn (hds 15 3610) 0 3610 (evC byref (evCall F S4 (m + 24)) (m + 24) 0 (hds 15) lbu15_0) p15_e11 [(.cells [(.d (.sl (.int .i64) x0.1)), (.d (.sl (.int .i64) x0.2))]), (.arr (.pair .str .str) [(([98] : List UInt8), (p15_k2 x0))] true)]).run = some (.normal, p15_e12, [(.cells [(.d (.sl (.int .i64) x0.1)), (.d (.sl (.int .i64) x0.2))]), (.arr (.pair .str .str) [(([98] : List UInt8), (p15_k2 x0))] true)]) := M.run_of_path _ [true, true, true, true, true, true, true, true, true, true, true, true, true, false] _ _ (by kernel_rfl) (all_t rfl (all_t rfl (all_t rfl (all_t c39 (all_t c39 (all_t c39 (all_t c39 (all_t rfl (all_t c39 (all_t c39 (all_t c39 (all_t c39 (all_t c39 (all_f c49 all_nil))))))))))))))
                    have hs2 : (turns (hds 15 3610) 0 3610 (evC byref (evCall F S4 (m + 24)) (m + 24) 0 (hds 15) lbu15_0) (m + 21) p15_e12 [(.cells [(.d (.sl (.int .i64) x0.1)), (.d (.sl (.int .i64) x0.2))]), (.arr (.pair .str .str) [(([98] : List UInt8), (p15_k2 x0))] true)]).run = some (.exit 0, p15_e4, [(.cells [(.d (.sl (.int .i64) x0.1)), (.d (.sl (.int .i64) x0.2))]), (.arr (.pair .str .str) [(([98] : List UInt8), (p15_k2 x0))] true)]) := Eq.mp (by kernel_rfl) hp3
                    have hp2 := turns_step ht2 hs2
                    have ht1 : (turn (hds 15 3610) 0 3610 (evC byref (evCall F S4 (m + 24)) (m + 24) 0 (hds 15) lbu15_0) p15_e13 [(.cells [(.d (.sl (.int .i64) x0.1)), (.d (.sl (.int .i64) x0.2))]), (.arr (.pair .str .str) ([] : List ((List UInt8) × (List UInt8))) true)]).run = some (.normal, p15_e11, [(.cells [(.d (.sl (.int .i64) x0.1)), (.d (.sl (.int .i64) x0.2))]), (.arr (.pair .str .str) [(([98] : List UInt8), (p15_k2 x0))] true)]) := M.run_of_path _ [true, true, true, true, true, true, true, true, true, true, true, true, true, true, true, true, true, true, true, true, true] _ _ (by kernel_rfl) (all_t rfl (all_t rfl (all_t rfl (all_t c18 (all_t c18 (all_t c18 (all_t c18 (all_t rfl (all_t c18 (all_t c18 (all_t c18 (all_t c18 (all_t c18 (all_t c28 (all_t c29 (all_t rfl (all_t c31 (all_t c32 (all_t rfl (all_t rfl (all_t rfl all_nil)))))))))))))))))))))
                    have hs1 : (turns (hds 15 3610) 0 3610 (evC byref (evCall F S4 (m + 24)) (m + 24) 0 (hds 15) lbu15_0) (m + 22) p15_e11 [(.cells [(.d (.sl (.int .i64) x0.1)), (.d (.sl (.int .i64) x0.2))]), (.arr (.pair .str .str) [(([98] : List UInt8), (p15_k2 x0))] true)]).run = some (.exit 0, p15_e4, [(.cells [(.d (.sl (.int .i64) x0.1)), (.d (.sl (.int .i64) x0.2))]), (.arr (.pair .str .str) [(([98] : List UInt8), (p15_k2 x0))] true)]) := Eq.mp (by kernel_rfl) hp2
                    have hp1 := turns_step ht1 hs1
                    have ht0 : (turn (hds 15 3610) 0 3610 (evC byref (evCall F S4 (m + 24)) (m + 24) 0 (hds 15) lbu15_0) p15_e6 [(.cells [(.d (.sl (.int .i64) x0.1)), (.d (.sl (.int .i64) x0.2))]), (.arr (.pair .str .str) ([] : List ((List UInt8) × (List UInt8))) true)]).run = some (.normal, p15_e13, [(.cells [(.d (.sl (.int .i64) x0.1)), (.d (.sl (.int .i64) x0.2))]), (.arr (.pair .str .str) ([] : List ((List UInt8) × (List UInt8))) true)]) := M.run_of_path _ [true, true, true, false, false, false, false, false, false, false, false, false] _ _ (by kernel_rfl) (all_t rfl (all_t rfl (all_t rfl (all_f c6 (all_f c6 (all_f c6 (all_f c6 (all_f c6 (all_f c6 (all_f c6 (all_f c6 (all_f Bool.false_ne_true all_nil))))))))))))
                    have hs0 : (turns (hds 15 3610) 0 3610 (evC byref (evCall F S4 (m + 24)) (m + 24) 0 (hds 15) lbu15_0) (m + 23) p15_e13 [(.cells [(.d (.sl (.int .i64) x0.1)), (.d (.sl (.int .i64) x0.2))]), (.arr (.pair .str .str) ([] : List ((List UInt8) × (List UInt8))) true)]).run = some (.exit 0, p15_e4, [(.cells [(.d (.sl (.int .i64) x0.1)), (.d (.sl (.int .i64) x0.2))]), (.arr (.pair .str .str) [(([98] : List UInt8), (p15_k2 x0))] true)]) := Eq.mp (by kernel_rfl) hp1
                    have hp0 := turns_step ht0 hs0
                    exact Eq.trans (Eq.mp (by kernel_rfl) hp0) hq
                  cases hp
              · skip
                cases h
                refine ⟨(.d (.sl (.pair .str .str) [(([98] : List UInt8), (p15_k2 x0))])), [], runT_ok (LS := (fun k => if k = 3610 then some (.exit 0, p15_e4, [(.cells [(.d (.sl (.int .i64) x0.1)), (.d (.sl (.int .i64) x0.2))]), (.arr (.pair .str .str) [(([98] : List UInt8), (p15_k2 x0))] true)]) else none)) (fn := fn15) (vis := [(3610, p15_e6, [(.cells [(.d (.sl (.int .i64) x0.1)), (.d (.sl (.int .i64) x0.2))]), (.arr (.pair .str .str) ([] : List ((List UInt8) × (List UInt8))) true)])]) (by kernel_rfl) rfl (by kernel_rfl) (M.run_of_path _ [true, true, true, true] _ _ (by kernel_rfl) (all_t rfl (all_t rfl (all_t rfl (all_t rfl all_nil))))) ?_, by simp, (wkR.one (wkV.one (wk1.eq rfl))), trivial⟩
                intro p hp p2 hq
                rcases List.mem_cons.1 hp with rfl | hp
                · skip
                  have ht3 : (turn (hds 15 3610) 0 3610 (evC byref (evCall F S4 (m + 24)) (m + 24) 0 (hds 15) lbu15_0) p15_e12 [(.cells [(.d (.sl (.int .i64) x0.1)), (.d (.sl (.int .i64) x0.2))]), (.arr (.pair .str .str) [(([98] : List UInt8), (p15_k2 x0))] true)]).run = some (.exit 0, p15_e4, [(.cells [(.d (.sl (.int .i64) x0.1)), (.d (.sl (.int .i64) x0.2))]), (.arr (.pair .str .str) [(([98] : List UInt8), (p15_k2 x0))] true)]) := M.run_of_path _ [false] _ _ (by kernel_rfl) (all_f Bool.false_ne_true all_nil)
                  have hp3 := turns_last (n := m + 20) (by simp) ht3
                  have ht2 : (turn (hds 15 3610) 0 3610 (evC byref (evCall F S4 (m + 24)) (m + 24) 0 (hds 15) lbu15_0) p15_e11 [(.cells [(.d (.sl (.int .i64) x0.1)), (.d (.sl (.int .i64) x0.2))]), (.arr (.pair .str .str) [(([98] : List UInt8), (p15_k2 x0))] true)]).run = some (.normal, p15_e12, [(.cells [(.d (.sl (.int .i64) x0.1)), (.d (.sl (.int .i64) x0.2))]), (.arr (.pair .str .str) [(([98] : List UInt8), (p15_k2 x0))] true)]) := M.run_of_path _ [true, true, true, false, false, false, false, false, false, false, false, false] _ _ (by kernel_rfl) (all_t rfl (all_t rfl (all_t rfl (all_f c39 (all_f c39 (all_f c39 (all_f c39 (all_f c39 (all_f c39 (all_f c39 (all_f c39 (all_f Bool.false_ne_true all_nil))))))))))))
                  have hs2 : (turns (hds 15 3610) 0 3610 (evC byref (evCall F S4 (m + 24)) (m + 24) 0 (hds 15) lbu15_0) (m + 21) p15_e12 [(.cells [(.d (.sl (.int .i64) x0.1)), (.d (.sl (.int .i64) x0.2))]), (.arr (.pair .str .str) [(([98] : List UInt8), (p15_k2 x0))] true)]).run = some (.exit 0, p15_e4, [(.cells [(.d (.sl (.int .i64) x0.1)), (.d (.sl (.int .i64) x0.2))]), (.arr (.pair .str .str) [(([98] : List UInt8), (p15_k2 x0))] true)]) := Eq.mp (by kernel_rfl) hp3
                  have hp2 := turns_step ht2 hs2
                  have ht1 : (turn (hds 15 3610) 0 3610 (evC byref (evCall F S4 (m + 24)) (m + 24) 0 (hds 15) lbu15_0) p15_e13 [(.cells [(.d (.sl (.int .i64) x0.1)), (.d (.sl (.int .i64) x0.2))]), (.arr (.pair .str .str) ([] : List ((List UInt8) × (List UInt8))) true)]).run = some (.normal, p15_e11, [(.cells [(.d (.sl (.int .i64) x0.1)), (.d (.sl (.int .i64) x0.2))]), (.arr (.pair .str .str) [(([98] : List UInt8), (p15_k2 x0))] true)]) := M.run_of_path _ [true, true, true, true, true, true, true, true, true, true, true, true, true, true, true, true, true, true, true, true, true] _ _ (by kernel_rfl) (all_t rfl (all_t rfl (all_t rfl (all_t c18 (all_t c18 (all_t c18 (all_t c18 (all_t rfl (all_t c18 (all_t c18 (all_t c18 (all_t c18 (all_t c18 (all_t c28 (all_t c29 (all_t rfl (all_t c31 (all_t c32 (all_t rfl (all_t rfl (all_t rfl all_nil)))))))))))))))))))))
                  have hs1 : (turns (hds 15 3610) 0 3610 (evC byref (evCall F S4 (m + 24)) (m + 24) 0 (hds 15) lbu15_0) (m + 22) p15_e11 [(.cells [(.d (.sl (.int .i64) x0.1)), (.d (.sl (.int .i64) x0.2))]), (.arr (.pair .str .str) [(([98] : List UInt8), (p15_k2 x0))] true)]).run = some (.exit 0, p15_e4, [(.cells [(.d (.sl (.int .i64) x0.1)), (.d (.sl (.int .i64) x0.2))]), (.arr (.pair .str .str) [(([98] : List UInt8), (p15_k2 x0))] true)]) := Eq.mp (by kernel_rfl) hp2
                  have hp1 := turns_step ht1 hs1
                  have ht0 : (turn (hds 15 3610) 0 3610 (evC byref (evCall F S4 (m + 24)) (m + 24) 0 (hds 15) lbu15_0) p15_e6 [(.cells [(.d (.sl (.int .i64) x0.1)), (.d (.sl (.int .i64) x0.2))]), (.arr (.pair .str .str) ([] : List ((List UInt8) × (List UInt8))) true)]).run = some (.normal, p15_e13, [(.cells [(.d (.sl (.int .i64) x0.1)), (.d (.sl (.int .i64) x0.2))]), (.arr (.pair .str .str) ([] : List ((List UInt8) × (List UInt8))) true)]) := M.run_of_path _ [true, true, true, false, false, false, false, false, false, false, false, false] _ _ (by kernel_rfl) (all_t rfl (all_t rfl (all_t rfl (all_f c6 (all_f c6 (all_f c6 (all_f c6 (all_f c6 (all_f c6 (all_f c6 (all_f c6 (all_f Bool.false_ne_true all_nil))))))))))))
                  have hs0 : (turns (hds 15 3610) 0 3610 (evC byref (evCall F S4 (m + 24)) (m + 24) 0 (hds 15) lbu15_0) (m + 23) p15_e13 [(.cells [(.d (.sl (.int .i64) x0.1)), (.d (.sl (.int .i64) x0.2))]), (.arr (.pair .str .str) ([] : List ((List UInt8) × (List UInt8))) true)]).run = some (.exit 0, p15_e4, [(.cells [(.d (.sl (.int .i64) x0.1)), (.d (.sl (.int .i64) x0.2))]), (.arr (.pair .str .str) [(([98] : List UInt8), (p15_k2 x0))] true)]) := Eq.mp (by kernel_rfl) hp1
                  have hp0 := turns_step ht0 hs0
                  exact Eq.trans (Eq.mp (by kernel_rfl) hp0) hq
                cases hp
            · skip
              cases h
          · skip
            cases h
        · skip
          cases h
      · skip
        refine ite_cases h (fun c32 h => ?_) (fun c32 h => ?_)
        · skip
          refine ite_cases h (fun c42 h => ?_) (fun c42 h => ?_)
          · skip
            refine ite_cases h (fun c43 h => ?_) (fun c43 h => ?_)
            · skip
              refine ite_cases h (fun c45 h => ?_) (fun c45 h => ?_)
              · skip
                refine ite_cases h (fun c46 h => ?_) (fun c46 h => ?_)
                · skip
                  cases h
                  refine ⟨(.d (.sl (.pair .str .str) [(([99] : List UInt8), (p15_k3 x0))])), [], runT_ok (LS := (fun k => if k = 3610 then some (.exit 0, p15_e4, [(.cells [(.d (.sl (.int .i64) x0.1)), (.d (.sl (.int .i64) x0.2))]), (.arr (.pair .str .str) [(([99] : List UInt8), (p15_k3 x0))] true)]) else none)) (fn := fn15) (vis := [(3610, p15_e6, [(.cells [(.d (.sl (.int .i64) x0.1)), (.d (.sl (.int .i64) x0.2))]), (.arr (.pair .str .str) ([] : List ((List UInt8) × (List UInt8))) true)])]) (by kernel_rfl) rfl (by kernel_rfl) (M.run_of_path _ [true, true, true, true] _ _ (by kernel_rfl) (all_t rfl (all_t rfl (all_t rfl (all_t rfl all_nil))))) ?_, by simp, (wkR.one (wkV.one (wk1.eq rfl))), trivial⟩
                  intro p hp p2 hq
                  rcases List.mem_cons.1 hp with rfl | hp
                  · skip
                    have ht3 : (turn (hds 15 3610) 0 3610 (evC byref (evCall F S4 (m + 24)) (m + 24) 0 (hds 15) lbu15_0) p15_e12 [(.cells [(.d (.sl (.int .i64) x0.1)), (.d (.sl (.int .i64) x0.2))]), (.arr (.pair .str .str) [(([99] : List UInt8), (p15_k3 x0))] true)]).run = some (.exit 0, p15_e4, [(.cells [(.d (.sl (.int .i64) x0.1)), (.d (.sl (.int .i64) x0.2))]), (.arr (.pair .str .str) [(([99] : List UInt8), (p15_k3 x0))] true)]) := M.run_of_path _ [false] _ _ (by kernel_rfl) (all_f Bool.false_ne_true all_nil)
                    have hp3 := turns_last (n := m + 20) (by simp) ht3
                    have ht2 : (turn (hds 15 3610) 0 3610 (evC byref (evCall F S4 (m + 24)) (m + 24) 0 (hds 15) lbu15_0) p15_e14 [(.cells [(.d (.sl (.int .i64) x0.1)), (.d (.sl (.int .i64) x0.2))]), (.arr (.pair .str .str) ([] : List ((List UInt8) × (List UInt8))) true)]).run = some (.normal, p15_e12, [(.cells [(.d (.sl (.int .i64) x0.1)), (.d (.sl (.int .i64) x0.2))]), (.arr (.pair .str .str) [(([99] : List UInt8), (p15_k3 x0))] true)]) := M.run_of_path _ [true, true, true, true, true, true, true, true, true, true, true, true, true, true, true, true, true, true, true, true, true] _ _ (by kernel_rfl) (all_t rfl (all_t rfl (all_t rfl (all_t c32 (all_t c32 (all_t c32 (all_t c32 (all_t rfl (all_t c32 (all_t c32 (all_t c32 (all_t c32 (all_t c32 (all_t c42 (all_t c43 (all_t rfl (all_t c45 (all_t c46 (all_t rfl (all_t rfl (all_t rfl all_nil)))))))))))))))))))))
                    have hs2 : (turns (hds 15 3610) 0 3610 (evC byref (evCall F S4 (m + 24)) (m + 24) 0 (hds 15) lbu15_0) (m + 21) p15_e12 [(.cells [(.d (.sl (.int .i64) x0.1)), (.d (.sl (.int .i64) x0.2))]), (.arr (.pair .str .str) [(([99] : List UInt8), (p15_k3 x0))] true)]).run = some (.exit 0, p15_e4, [(.cells [(.d (.sl (.int .i64) x0.1)), (.d (.sl (.int .i64) x0.2))]), (.arr (.pair .str .str) [(([99] : List UInt8), (p15_k3 x0))] true)]) := Eq.mp (by kernel_rfl) hp3
                    have hp2 := turns_step ht2 hs2
                    have ht1 : (turn (hds 15 3610) 0 3610 (evC byref (evCall F S4 (m + 24)) (m + 24) 0 (hds 15) lbu15_0) p15_e13 [(.cells [(.d (.sl (.int .i64) x0.1)), (.d (.sl (.int .i64) x0.2))]), (.arr (.pair .str .str) ([] : List ((List UInt8) × (List UInt8))) true)]).run = some (.normal, p15_e14, [(.cells [(.d (.sl (.int .i64) x0.1)), (.d (.sl (.int .i64) x0.2))]), (.arr (.pair .str .str) ([] : List ((List UInt8) × (List UInt8))) true)]) := M.run_of_path _ [true, true, true, true, true, true, true, true, true, true, true, true, true, false] _ _ (by kernel_rfl) (all_t rfl (all_t rfl (all_t rfl (all_t c18 (all_t c18 (all_t c18 (all_t c18 (all_t rfl (all_t c18 (all_t c18 (all_t c18 (all_t c18 (all_t c18 (all_f c28 all_nil))))))))))))))
                    have hs1 : (turns (hds 15 3610) 0 3610 (evC byref (evCall F S4 (m + 24)) (m + 24) 0 (hds 15) lbu15_0) (m + 22) p15_e14 [(.cells [(.d (.sl (.int .i64) x0.1)), (.d (.sl (.int .i64) x0.2))]), (.arr (.pair .str .str) ([] : List ((List UInt8) × (List UInt8))) true)]).run = some (.exit 0, p15_e4, [(.cells [(.d (.sl (.int .i64) x0.1)), (.d (.sl (.int .i64) x0.2))]), (.arr (.pair .str .str) [(([99] : List UInt8), (p15_k3 x0))] true)]) := Eq.mp (by kernel_rfl) hp2
                    have hp1 := turns_step ht1 hs1
                    have ht0 : (turn (hds 15 3610) 0 3610 (evC byref (evCall F S4 (m + 24)) (m + 24) 0 (hds 15) lbu15_0) p15_e6 [(.cells [(.d (.sl (.int .i64) x0.1)), (.d (.sl (.int .i64) x0.2))]), (.arr (.pair .str .str) ([] : List ((List UInt8) × (List UInt8))) true)]).run = some (.normal, p15_e13, [(.cells [(.d (.sl (.int .i64) x0.1)), (.d (.sl (.int .i64) x0.2))]), (.arr (.pair .str .str) ([] : List ((List UInt8) × (List UInt8))) true)]) := M.run_of_path _ [true, true, true, false, false, false, false, false, false, false, false, false] _ _ (by kernel_rfl) (all_t rfl (all_t rfl (all_t rfl (all_f c6 (all_f c6 (all_f c6 (all_f c6 (all_f c6 (all_f c6 (all_f c6 (all_f c6 (all_f Bool.false_ne_true all_nil))))))))))))
                    have hs0 : (turns (hds 15 3610) 0 3610 (evC byref (evCall F S4 (m + 24)) (m + 24) 0 (hds 15) lbu15_0) (m + 23) p15_e13 [(.cells [(.d (.sl (.int .i64) x0.1)), (.d (.sl (.int .i64) x0.2))]), (.arr (.pair .str .str) ([] : List ((List UInt8) × (List UInt8))) true)]).run = some (.exit 0, p15_e4, [(.cells [(.d (.sl (.int .i64) x0.1)), (.d (.sl (.int .i64) x0.2))]), (.arr (.pair .str .str) [(([99] : List UInt8), (p15_k3 x0))] true)]) := Eq.mp (by kernel_rfl) hp1
                    have hp0 := turns_step ht0 hs0
                    exact Eq.trans (Eq.mp (by kernel_rfl) hp0) hq
                  cases hp
                · skip
                  cases h
              · skip
                cases h
            · skip
              cases h
          · skip
            cases h
            refine ⟨(.d (.sl (.pair .str .str) ([] : List ((List UInt8) × (List UInt8))))), [], runT_ok (LS := (fun k => if k = 3610 then some (.exit 0, p15_e5, [(.cells [(.d (.sl (.int .i64) x0.1)), (.d (.sl (.int .i64) x0.2))]), (.arr (.pair .str .str) ([] : List ((List UInt8) × (List UInt8))) true)]) else none)) (fn := fn15) (vis := [(3610, p15_e6, [(.cells [(.d (.sl (.int .i64) x0.1)), (.d (.sl (.int .i64) x0.2))]), (.arr (.pair .str .str) ([] : List ((List UInt8) × (List UInt8))) true)])]) (by kernel_rfl) rfl (by kernel_rfl) (M.run_of_path _ [true, true, true, true] _ _ (by kernel_rfl) (all_t rfl (all_t rfl (all_t rfl (all_t rfl all_nil))))) ?_, by simp, (wkR.one (wkV.one (wk1.eq rfl))), trivial⟩
            intro p hp p2 hq
            rcases List.mem_cons.1 hp with rfl | hp
            · skip
              have ht3 : (turn (hds 15 3610) 0 3610 (evC byref (evCall F S4 (m + 24)) (m + 24) 0 (hds 15) lbu15_0) p15_e15 [(.cells [(.d (.sl (.int .i64) x0.1)), (.d (.sl (.int .i64) x0.2))]), (.arr (.pair .str .str) ([] : List ((List UInt8) × (List UInt8))) true)]).run = some (.exit 0, p15_e5, [(.cells [(.d (.sl (.int .i64) x0.1)), (.d (.sl (.int .i64) x0.2))]), (.arr (.pair .str .str) ([] : List ((List UInt8) × (List UInt8))) true)]) := M.run_of_path _ [false] _ _ (by kernel_rfl) (all_f Bool.false_ne_true all_nil)
              have hp3 := turns_last (n := m + 20) (by simp) ht3
              have ht2 : (turn (hds 15 3610) 0 3610 (evC byref (evCall F S4 (m + 24)) (m + 24) 0 (hds 15) lbu15_0) p15_e14 [(.cells [(.d (.sl (.int .i64) x0.1)), (.d (.sl (.int .i64) x0.2))]), (.arr (.pair .str .str) ([] : List ((List UInt8) × (List UInt8))) true)]).run = some (.normal, p15_e15, [(.cells [(.d (.sl (.int .i64) x0.1)), (.d (.sl (.int .i64) x0.2))]), (.arr (.pair .str .str) ([] : List ((List UInt8) × (List UInt8))) true)]) := M.run_of_path _ [true, true, true, true, true, true, true, true, true, true, true, true, true, false] _ _ (by kernel_rfl) (all_t rfl (all_t rfl (all_t rfl (all_t c32 (all_t c32 (all_t c32 (all_t c32 (all_t rfl (all_t c32 (all_t c32 (all_t c32 (all_t c32 (all_t c32 (all_f c42 all_nil))))))))))))))
              have hs2 : (turns (hds 15 3610) 0 3610 (evC byref (evCall F S4 (m + 24)) (m + 24) 0 (hds 15) lbu15_0) (m + 21) p15_e15 [(.cells [(.d (.sl (.int .i64) x0.1)), (.d (.sl (.int .i64) x0.2))]), (.arr (.pair .str .str) ([] : List ((List UInt8) × (List UInt8))) true)]).run = some (.exit 0, p15_e5, [(.cells [(.d (.sl (.int .i64) x0.1)), (.d (.sl (.int .i64) x0.2))]), (.arr (.pair .str .str) ([] : List ((List UInt8) × (List UInt8))) true)]) := Eq.mp (by kernel_rfl) hp3
              have hp2 := turns_step ht2 hs2
              have ht1 : (turn (hds 15 3610) 0 3610 (evC byref (evCall F S4 (m + 24)) (m + 24) 0 (hds 15) lbu15_0) p15_e13 [(.cells [(.d (.sl (.int .i64) x0.1)), (.d (.sl (.int .i64) x0.2))]), (.arr (.pair .str .str) ([] : List ((List UInt8) × (List UInt8))) true)]).run = some (.normal, p15_e14, [(.cells [(.d (.sl (.int .i64) x0.1)), (.d (.sl (.int .i64) x0.2))]), (.arr (.pair .str .str) ([] : List ((List UInt8) × (List UInt8))) true)]) := M.run_of_path _ [true, true, true, true, true, true, true, true, true, true, true, true, true, false] _ _ (by kernel_rfl) (all_t rfl (all_t rfl (all_t rfl (all_t c18 (all_t c18 (all_t c18 (all_t c18 (all_t rfl (all_t c18 (all_t c18 (all_t c18 (all_t c18 (all_t c18 (all_f c28 all_nil))))))))))))))
              have hs1 : (turns (hds 15 3610) 0 3610 (evC byref (evCall F S4 (m + 24)) (m + 24) 0 (hds 15) lbu15_0) (m + 22) p15_e14 [(.cells [(.d (.sl (.int .i64) x0.1)), (.d (.sl (.int .i64) x0.2))]), (.arr (.pair .str .str) ([] : List ((List UInt8) × (List UInt8))) true)]).run = some (.exit 0, p15_e5, [(.cells [(.d (.sl (.int .i64) x0.1)), (.d (.sl (.int .i64) x0.2))]), (.arr (.pair .str .str) ([] : List ((List UInt8) × (List UInt8))) true)]) := Eq.mp (by kernel_rfl) hp2
              have hp1 := turns_step ht1 hs1
              have ht0 : (turn (hds 15 3610) 0 3610 (evC byref (evCall F S4 (m + 24)) (m + 24) 0 (hds 15) lbu15_0) p15_e6 [(.cells [(.d (.sl (.int .i64) x0.1)), (.d (.sl (.int .i64) x0.2))]), (.arr (.pair .str .str) ([] : List ((List UInt8) × (List UInt8))) true)]).run = some (.normal, p15_e13, [(.cells [(.d (.sl (.int .i64) x0.1)), (.d (.sl (.int .i64) x0.2))]), (.arr (.pair .str .str) ([] : List ((List UInt8) × (List UInt8))) true)]) := M.run_of_path _ [true, true, true, false, false, false, false, false, false, false, false, false] _ _ (by kernel_rfl) (all_t rfl (all_t rfl (all_t rfl (all_f c6 (all_f c6 (all_f c6 (all_f c6 (all_f c6 (all_f c6 (all_f c6 (all_f c6 (all_f Bool.false_ne_true all_nil))))))))))))
              have hs0 : (turns (hds 15 3610) 0 3610 (evC byref (evCall F S4 (m + 24)) (m + 24) 0 (hds 15) lbu15_0) (m + 23) p15_e13 [(.cells [(.d (.sl (.int .i64) x0.1)), (.d (.sl (.int .i64) x0.2))]), (.arr (.pair .str .str) ([] : List ((List UInt8) × (List UInt8))) true)]).run = some (.exit 0, p15_e5, [(.cells [(.d (.sl (.int .i64) x0.1)), (.d (.sl (.int .i64) x0.2))]), (.arr (.pair .str .str) ([] : List ((List UInt8) × (List UInt8))) true)]) := Eq.mp (by kernel_rfl) hp1
              have hp0 := turns_step ht0 hs0
              exact Eq.trans (Eq.mp (by kernel_rfl) hp0) hq
            cases hp
        · skip
          cases h
          refine ⟨(.d (.sl (.pair .str .str) ([] : List ((List UInt8) × (List UInt8))))), [], runT_ok (LS := (fun k => if k = 3610 then some (.exit 0, p15_e5, [(.cells [(.d (.sl (.int .i64) x0.1)), (.d (.sl (.int .i64) x0.2))]), (.arr (.pair .str .str) ([] : List ((List UInt8) × (List UInt8))) true)]) else none)) (fn := fn15) (vis := [(3610, p15_e6, [(.cells [(.d (.sl (.int .i64) x0.1)), (.d (.sl (.int .i64) x0.2))]), (.arr (.pair .str .str) ([] : List ((List UInt8) × (List UInt8))) true)])]) (by kernel_rfl) rfl (by kernel_rfl) (M.run_of_path _ [true, true, true, true] _ _ (by kernel_rfl) (all_t rfl (all_t rfl (all_t rfl (all_t rfl all_nil))))) ?_, by simp, (wkR.one (wkV.one (wk1.eq rfl))), trivial⟩
          intro p hp p2 hq
          rcases List.mem_cons.1 hp with rfl | hp
          · skip
            have ht3 : (turn (hds 15 3610) 0 3610 (evC byref (evCall F S4 (m + 24)) (m + 24) 0 (hds 15) lbu15_0) p15_e15 [(.cells [(.d (.sl (.int .i64) x0.1)), (.d (.sl (.int .i64) x0.2))]), (.arr (.pair .str .str) ([] : List ((List UInt8) × (List UInt8))) true)]).run = some (.exit 0, p15_e5, [(.cells [(.d (.sl (.int .i64) x0.1)), (.d (.sl (.int .i64) x0.2))]), (.arr (.pair .str .str) ([] : List ((List UInt8) × (List UInt8))) true)]) := M.run_of_path _ [false] _ _ (by kernel_rfl) (all_f Bool.false_ne_true all_nil)
            have hp3 := turns_last (n := m + 20) (by simp) ht3
            have ht2 : (turn (hds 15 3610) 0 3610 (evC byref (evCall F S4 (m + 24)) (m + 24) 0 (hds 15) lbu15_0) p15_e14 [(.cells [(.d (.sl (.int .i64) x0.1)), (.d (.sl (.int .i64) x0.2))]), (.arr (.pair .str .str) ([] : List ((List UInt8) × (List UInt8))) true)]).run = some (.normal, p15_e15, [(.cells [(.d (.sl (.int .i64) x0.1)), (.d (.sl (.int .i64) x0.2))]), (.arr (.pair .str .str) ([] : List ((List UInt8) × (List UInt8))) true)]) := M.run_of_path _ [true, true, true, false, false, false, false, false, false, false, false, false] _ _ (by kernel_rfl) (all_t rfl (all_t rfl (all_t rfl (all_f c32 (all_f c32 (all_f c32 (all_f c32 (all_f c32 (all_f c32 (all_f c32 (all_f c32 (all_f Bool.false_ne_true all_nil))))))))))))
            have hs2 : (turns (hds 15 3610) 0 3610 (evC byref (evCall F S4 (m + 24)) (m + 24) 0 (hds 15) lbu15_0) (m + 21) p15_e15 [(.cells [(.d (.sl (.int .i64) x0.1)), (.d (.sl (.int .i64) x0.2))]), (.arr (.pair .str .str) ([] : List ((List UInt8) × (List UInt8))) true)]).run = some (.exit 0, p15_e5, [(.cells [(.d (.sl (.int .i64) x0.1)), (.d (.sl (.int .i64) x0.2))]), (.arr (.pair .str .str) ([] : List ((List UInt8) × (List UInt8))) true)]) := Eq.mp (by kernel_rfl) hp3
            have hp2 := turns_step ht2 hs2
            have ht1 : (turn (hds 15 3610) 0 3610 (evC byref (evCall F S4 (m + 24)) (m + 24) 0 (hds 15) lbu15_0) p15_e13 [(.cells [(.d (.sl (.int .i64) x0.1)), (.d (.sl (.int .i64) x0.2))]), (.arr (.pair .str .str) ([] : List ((List UInt8) × (List UInt8))) true)]).run = some (.normal, p15_e14, [(.cells [(.d (.sl (.int .i64) x0.1)), (.d (.sl (.int .i64) x0.2))]), (.arr (.pair .str .str) ([] : List ((List UInt8) × (List UInt8))) true)]) := M.run_of_path _ [true, true, true, true, true, true, true, true, true, true, true, true, true, false] _ _ (by kernel_rfl) (all_t rfl (all_t rfl (all_t rfl (all_t c18 (all_t c18 (all_t c18 (all_t c18 (all_t rfl (all_t c18 (all_t c18 (all_t c18 (all_t c18 (all_t c18 (all_f c28 all_nil))))))))))))))
            have hs1 : (turns (hds 15 3610) 0 3610 (evC byref (evCall F S4 (m + 24)) (m + 24) 0 (hds 15) lbu15_0) (m + 22) p15_e14 [(.cells [(.d (.sl (.int .i64) x0.1)), (.d (.sl (.int .i64) x0.2))]), (.arr (.pair .str .str) ([] : List ((List UInt8) × (List UInt8))) true)]).run = some (.exit 0, p15_e5, [(.cells [(.d (.sl (.int .i64) x0.1)), (.d (.sl (.int .i64) x0.2))]), (.arr (.pair .str .str) ([] : List ((List UInt8) × (List UInt8))) true)]) := Eq.mp (by kernel_rfl) hp2
            have hp1 := turns_step ht1 hs1
            have ht0 : (turn (hds 15 3610) 0 3610 (evC byref (evCall F S4 (m + 24)) (m + 24) 0 (hds 15) lbu15_0) p15_e6 [(.cells [(.d (.sl (.int .i64) x0.1)), (.d (.sl (.int .i64) x0.2))]), (.arr (.pair .str .str) ([] : List ((List UInt8) × (List UInt8))) true)]).run = some (.normal, p15_e13, [(.cells [(.d (.sl (.int .i64) x0.1)), (.d (.sl (.int .i64) x0.2))]), (.arr (.pair .str .str) ([] : List ((List UInt8) × (List UInt8))) true)]) := M.run_of_path _ [true, true, true, false, false, false, false, false, false, false, false, false] _ _ (by kernel_rfl) (all_t rfl (all_t rfl (all_t rfl (all_f c6 (all_f c6 (all_f c6 (all_f c6 (all_f c6 (all_f c6 (all_f c6 (all_f c6 (all_f Bool.false_ne_true all_nil))))))))))))
            have hs0 : (turns (hds 15 3610) 0 3610 (evC byref (evCall F S4 (m + 24)) (m + 24) 0 (hds 15) lbu15_0) (m + 23) p15_e13 [(.cells [(.d (.sl (.int .i64) x0.1)), (.d (.sl (.int .i64) x0.2))]), (.arr (.pair .str .str) ([] : List ((List UInt8) × (List UInt8))) true)]).run = some (.exit 0, p15_e5, [(.cells [(.d (.sl (.int .i64) x0.1)), (.d (.sl (.int .i64) x0.2))]), (.arr (.pair .str .str) ([] : List ((List UInt8) × (List UInt8))) true)]) := Eq.mp (by kernel_rfl) hp1
            have hp0 := turns_step ht0 hs0
            exact Eq.trans (Eq.mp (by kernel_rfl) hp0) hq
          cases hp
    · skip
      refine ite_cases h (fun c30 h => ?_) (fun c30 h => ?_)
      · skip
        refine ite_cases h (fun c40 h => ?_) (fun c40 h => ?_)
        · skip
          refine ite_cases h (fun c41 h => ?_) (fun c41 h => ?_)
          · skip
            refine ite_cases h (fun c43 h => ?_) (fun c43 h => ?_)
            · skip
              refine ite_cases h (fun c44 h => ?_) (fun c44 h => ?_)
              · skip
                cases h
                refine ⟨(.d (.sl (.pair .str .str) [(([99] : List UInt8), (p15_k3 x0))])), [], runT_ok (LS := (fun k => if k = 3610 then some (.exit 0, p15_e4, [(.cells [(.d (.sl (.int .i64) x0.1)), (.d (.sl (.int .i64) x0.2))]), (.arr (.pair .str .str) [(([99] : List UInt8), (p15_k3 x0))] true)]) else none)) (fn := fn15) (vis := [(3610, p15_e6, [(.cells [(.d (.sl (.int .i64) x0.1)), (.d (.sl (.int .i64) x0.2))]), (.arr (.pair .str .str) ([] : List ((List UInt8) × (List UInt8))) true)])]) (by kernel_rfl) rfl (by kernel_rfl) (M.run_of_path _ [true, true, true, true] _ _ (by kernel_rfl) (all_t rfl (all_t rfl (all_t rfl (all_t rfl all_nil))))) ?_, by simp, (wkR.one (wkV.one (wk1.eq rfl))), trivial⟩
                intro p hp p2 hq
                rcases List.mem_cons.1 hp with rfl | hp
                · skip
                  have ht3 : (turn (hds 15 3610) 0 3610 (evC byref (evCall F S4 (m + 24)) (m + 24) 0 (hds 15) lbu15_0) p15_e12 [(.cells [(.d (.sl (.int .i64) x0.1)), (.d (.sl (.int .i64) x0.2))]), (.arr (.pair .str .str) [(([99] : List UInt8), (p15_k3 x0))] true)]).run = some (.exit 0, p15_e4, [(.cells [(.d (.sl (.int .i64) x0.1)), (.d (.sl (.int .i64) x0.2))]), (.arr (.pair .str .str) [(([99] : List UInt8), (p15_k3 x0))] true)]) := M.run_of_path _ [false] _ _ (by kernel_rfl) (all_f Bool.false_ne_true all_nil)
                  have hp3 := turns_last (n := m + 20) (by simp) ht3
                  have ht2 : (turn (hds 15 3610) 0 3610 (evC byref (evCall F S4 (m + 24)) (m + 24) 0 (hds 15) lbu15_0) p15_e14 [(.cells [(.d (.sl (.int .i64) x0.1)), (.d (.sl (.int .i64) x0.2))]), (.arr (.pair .str .str) ([] : List ((List UInt8) × (List UInt8))) true)]).run = some (.normal, p15_e12, [(.cells [(.d (.sl (.int .i64) x0.1)), (.d (.sl (.int .i64) x0.2))]), (.arr (.pair .str .str) [(([99] : List UInt8), (p15_k3 x0))] true)]) := M.run_of_path _ [true, true, true, true, true, true, true, true, true, true, true, true, true, true, true, true, true, true, true, true, true] _ _ (by kernel_rfl) (all_t rfl (all_t rfl (all_t rfl (all_t c30 (all_t c30 (all_t c30 (all_t c30 (all_t rfl (all_t c30 (all_t c30 (all_t c30 (all_t c30 (all_t c30 (all_t c40 (all_t c41 (all_t rfl (all_t c43 (all_t c44 (all_t rfl (all_t rfl (all_t rfl all_nil)))))))))))))))))))))
                  have hs2 : (turns (hds 15 3610) 0 3610 (evC byref (evCall F S4 (m + 24)) (m + 24) 0 (hds 15) lbu15_0) (m + 21) p15_e12 [(.cells [(.d (.sl (.int .i64) x0.1)), (.d (.sl (.int .i64) x0.2))]), (.arr (.pair .str .str) [(([99] : List UInt8), (p15_k3 x0))] true)]).run = some (.exit 0, p15_e4, [(.cells [(.d (.sl (.int .i64) x0.1)), (.d (.sl (.int .i64) x0.2))]), (.arr (.pair .str .str) [(([99] : List UInt8), (p15_k3 x0))] true)]) := Eq.mp (by kernel_rfl) hp3
                  have hp2 := turns_step ht2 hs2
                  have ht1 : (turn (hds 15 3610) 0 3610 (evC byref (evCall F S4 (m + 24)) (m + 24) 0 (hds 15) lbu15_0) p15_e13 [(.cells [(.d (.sl (.int .i64) x0.1)), (.d (.sl (.int .i64) x0.2))]), (.arr (.pair .str .str) ([] : List ((List UInt8) × (List UInt8))) true)]).run = some (.normal, p15_e14, [(.cells [(.d (.sl (.int .i64) x0.1)), (.d (.sl (.int .i64) x0.2))]), (.arr (.pair .str .str) ([] : List ((List UInt8) × (List UInt8))) true)]) := M.run_of_path _ [true, true, true, false, false, false, false, false, false, false, false, false] _ _ (by kernel_rfl) (all_t rfl (all_t rfl (all_t rfl (all_f c18 (all_f c18 (all_f c18 (all_f c18 (all_f c18 (all_f c18 (all_f c18 (all_f c18 (all_f Bool.false_ne_true all_nil))))))))))))
                  have hs1 : (turns (hds 15 3610) 0 3610 (evC byref (evCall F S4 (m + 24)) (m + 24) 0 (hds 15) lbu15_0) (m + 22) p15_e14 [(.cells [(.d (.sl (.int .i64) x0.1)), (.d (.sl (.int .i64) x0.2))]), (.arr (.pair .str .str) ([] : List ((List UInt8) × (List UInt8))) true)]).run = some (.exit 0, p15_e4, [(.cells [(.d (.sl (.int .i64) x0.1)), (.d (.sl (.int .i64) x0.2))]), (.arr (.pair .str .str) [(([99] : List UInt8), (p15_k3 x0))] true)]) := Eq.mp (by kernel_rfl) hp2
                  have hp1 := turns_step ht1 hs1
                  have ht0 : (turn (hds 15 3610) 0 3610 (evC byref (evCall F S4 (m + 24)) (m + 24) 0 (hds 15) lbu15_0) p15_e6 [(.cells [(.d (.sl (.int .i64) x0.1)), (.d (.sl (.int .i64) x0.2))]), (.arr (.pair .str .str) ([] : List ((List UInt8) × (List UInt8))) true)]).run = some (.normal, p15_e13, [(.cells [(.d (.sl (.int .i64) x0.1)), (.d (.sl (.int .i64) x0.2))]), (.arr (.pair .str .str) ([] : List ((List UInt8) × (List UInt8))) true)]) := M.run_of_path _ [true, true, true, false, false, false, false, false, false, false, false, false] _ _ (by kernel_rfl) (all_t rfl (all_t rfl (all_t rfl (all_f c6 (all_f c6 (all_f c6 (all_f c6 (all_f c6 (all_f c6 (all_f c6 (all_f c6 (all_f Bool.false_ne_true all_nil))))))))))))
                  have hs0 : (turns (hds 15 3610) 0 3610 (evC byref (evCall F S4 (m + 24)) (m + 24) 0 (hds 15) lbu15_0) (m + 23) p15_e13 [(.cells [(.d (.sl (.int .i64) x0.1)), (.d (.sl (.int .i64) x0.2))]), (.arr (.pair .str .str) ([] : List ((List UInt8) × (List UInt8))) true)]).run = some (.exit 0, p15_e4, [(.cells [(.d (.sl (.int .i64) x0.1)), (.d (.sl (.int .i64) x0.2))]), (.arr (.pair .str .str) [(([99] : List UInt8), (p15_k3 x0))] true)]) := Eq.mp (by kernel_rfl) hp1
                  have hp0 := turns_step ht0 hs0
                  exact Eq.trans (Eq.mp (by kernel_rfl) hp0) hq
                cases hp
              · skip
                cases h
            · skip
              cases h
          · skip
            cases h
        · skip
          cases h
          refine ⟨(.d (.sl (.pair .str .str) ([] : List ((List UInt8) × (List UInt8))))), [], runT_ok (LS := (fun k => if k = 3610 then some (.exit 0, p15_e5, [(.cells [(.d (.sl (.int .i64) x0.1)), (.d (.sl (.int .i64) x0.2))]), (.arr (.pair .str .str) ([] : List ((List UInt8) × (List UInt8))) true)]) else none)) (fn := fn15) (vis := [(3610, p15_e6, [(.cells [(.d (.sl (.int .i64) x0.1)), (.d (.sl (.int .i64) x0.2))]), (.arr (.pair .str .str) ([] : List ((List UInt8) × (List UInt8))) true)])]) (by kernel_rfl) rfl (by kernel_rfl) (M.run_of_path _ [true, true, true, true] _ _ (by kernel_rfl) (all_t rfl (all_t rfl (all_t rfl (all_t rfl all_nil))))) ?_, by simp, (wkR.one (wkV.one (wk1.eq rfl))), trivial⟩
          intro p hp p2 hq
          rcases List.mem_cons.1 hp with rfl | hp
          · skip
            have ht3 : (turn (hds 15 3610) 0 3610 (evC byref (evCall F S4 (m + 24)) (m + 24) 0 (hds 15) lbu15_0) p15_e15 [(.cells [(.d (.sl (.int .i64) x0.1)), (.d (.sl (.int .i64) x0.2))]), (.arr (.pair .str .str) ([] : List ((List UInt8) × (List UInt8))) true)]).run = some (.exit 0, p15_e5, [(.cells [(.d (.sl (.int .i64) x0.1)), (.d (.sl (.int .i64) x0.2))]), (.arr (.pair .str .str) ([] : List ((List UInt8) × (List UInt8))) true)]) := M.run_of_path _ [false] _ _ (by kernel_rfl) (all_f Bool.false_ne_true all_nil)
            have hp3 := turns_last (n := m + 20) (by simp) ht3
            have ht2 : (turn (hds 15 3610) 0 3610 (evC byref (evCall F S4 (m + 24)) (m + 24) 0 (hds 15) lbu15_0) p15_e14 [(.cells [(.d (.sl (.int .i64) x0.1)), (.d (.sl (.int .i64) x0.2))]), (.arr (.pair .str .str) ([] : List ((List UInt8) × (List UInt8))) true)]).run = some (.normal, p15_e15, [(.cells [(.d (.sl (.int .i64) x0.1)), (.d (.sl (.int .i64) x0.2))]), (.arr (.pair .str .str) ([] : List ((List UInt8) × (List UInt8))) true)]) := M.run_of_path _ [true, true, true, true, true, true, true, true, true, true, true, true, true, false] _ _ (by kernel_rfl) (all_t rfl (all_t rfl (all_t rfl (all_t c30 (all_t c30 (all_t c30 (all_t c30 (all_t rfl (all_t c30 (all_t c30 (all_t c30 (all_t c30 (all_t c30 (all_f c40 all_nil))))))))))))))
            have hs2 : (turns (hds 15 3610) 0 3610 (evC byref (evCall F S4 (m + 24)) (m + 24) 0 (hds 15) lbu15_0) (m + 21) p15_e15 [(.cells [(.d (.sl (.int .i64) x0.1)), (.d (.sl (.int .i64) x0.2))]), (.arr (.pair .str .str) ([] : List ((List UInt8) × (List UInt8))) true)]).run = some (.exit 0, p15_e5, [(.cells [(.d (.sl (.int .i64) x0.1)), (.d (.sl (.int .i64) x0.2))]), (.arr (.pair .str .str) ([] : List ((List UInt8) × (List UInt8))) true)]) := Eq.mp (by kernel_rfl) hp3
            have hp2 := turns_step ht2 hs2
            have ht1 : (turn (hds 15 3610) 0 3610 (evC byref (evCall F S4 (m + 24)) (m + 24) 0 (hds 15) lbu15_0) p15_e13 [(.cells [(.d (.sl (.int .i64) x0.1)), (.d (.sl (.int .i64) x0.2))]), (.arr (.pair .str .str) ([] : List ((List UInt8) × (List UInt8))) true)]).run = some (.normal, p15_e14, [(.cells [(.d (.sl (.int .i64) x0.1)), (.d (.sl (.int .i64) x0.2))]), (.arr (.pair .str .str) ([] : List ((List UInt8) × (List UInt8))) true)]) := M.run_of_path _ [true, true, true, false, false, false, false, false, false, false, false, false] _ _ (by kernel_rfl) (all_t rfl (all_t rfl (all_t rfl (all_f c18 (all_f c18 (all_f c18 (all_f c18 (all_f c18 (all_f c18 (all_f c18 (all_f c18 (all_f Bool.false_ne_true all_nil))))))))))))
            have hs1 : (turns (hds 15 3610) 0 3610 (evC byref (evCall F S4 (m + 24)) (m + 24) 0 (hds 15) lbu15_0) (m + 22) p15_e14 [(.cells [(.d (.sl (.int .i64) x0.1)), (.d (.sl (.int .i64) x0.2))]), (.arr (.pair .str .str) ([] : List ((List UInt8) × (List UInt8))) true)]).run = some (.exit 0, p15_e5, [(.cells [(.d (.sl (.int .i64) x0.1)), (.d (.sl (.int .i64) x0.2))]), (.arr (.pair .str .str) ([] : List ((List UInt8) × (List UInt8))) true)]) := Eq.mp (by kernel_rfl) hp2
            have hp1 := turns_step ht1 hs1
            have ht0 : (turn (hds 15 3610) 0 3610 (evC byref (evCall F S4 (m + 24)) (m + 24) 0 (hds 15) lbu15_0) p15_e6 [(.cells [(.d (.sl (.int .i64) x0.1)), (.d (.sl (.int .i64) x0.2))]), (.arr (.pair .str .str) ([] : List ((List UInt8) × (List UInt8))) true)]).run = some (.normal, p15_e13, [(.cells [(.d (.sl (.int .i64) x0.1)), (.d (.sl (.int .i64) x0.2))]), (.arr (.pair .str .str) ([] : List ((List UInt8) × (List UInt8))) true)]) := M.run_of_path _ [true, true, true, false, false, false, false, false, false, false, false, false] _ _ (by kernel_rfl) (all_t rfl (all_t rfl (all_t rfl (all_f c6 (all_f c6 (all_f c6 (all_f c6 (all_f c6 (all_f c6 (all_f c6 (all_f c6 (all_f Bool.false_ne_true all_nil))))))))))))
            have hs0 : (turns (hds 15 3610) 0 3610 (evC byref (evCall F S4 (m + 24)) (m + 24) 0 (hds 15) lbu15_0) (m + 23) p15_e13 [(.cells [(.d (.sl (.int .i64) x0.1)), (.d (.sl (.int .i64) x0.2))]), (.arr (.pair .str .str) ([] : List ((List UInt8) × (List UInt8))) true)]).run = some (.exit 0, p15_e5, [(.cells [(.d (.sl (.int .i64) x0.1)), (.d (.sl (.int .i64) x0.2))]), (.arr (.pair .str .str) ([] : List ((List UInt8) × (List UInt8))) true)]) := Eq.mp (by kernel_rfl) hp1
            have hp0 := turns_step ht0 hs0
            exact Eq.trans (Eq.mp (by kernel_rfl) hp0) hq
          cases hp
      · skip
        cases h
        refine ⟨(.d (.sl (.pair .str .str) ([] : List ((List UInt8) × (List UInt8))))), [], runT_ok (LS := (fun k => if k = 3610 then some (.exit 0, p15_e5, [(.cells [(.d (.sl (.int .i64) x0.1)), (.d (.sl (.int .i64) x0.2))]), (.arr (.pair .str .str) ([] : List ((List UInt8) × (List UInt8))) true)]) else none)) (fn := fn15) (vis := [(3610, p15_e6, [(.cells [(.d (.sl (.int .i64) x0.1)), (.d (.sl (.int .i64) x0.2))]), (.arr (.pair .str .str) ([] : List ((List UInt8) × (List UInt8))) true)])]) (by kernel_rfl) rfl (by kernel_rfl) (M.run_of_path _ [true, true, true, true] _ _ (by kernel_rfl) (all_t rfl (all_t rfl (all_t rfl (all_t rfl all_nil))))) ?_, by simp, (wkR.one (wkV.one (wk1.eq rfl))), trivial⟩
        intro p hp p2 hq
        rcases List.mem_cons.1 hp with rfl | hp
        · skip
          have ht3 : (turn (hds 15 3610) 0 3610 (evC byref (evCall F S4 (m + 24)) (m + 24) 0 (hds 15) lbu15_0) p15_e15 [(.cells [(.d (.sl (.int .i64) x0.1)), (.d (.sl (.int .i64) x0.2))]), (.arr (.pair .str .str) ([] : List ((List UInt8) × (List UInt8))) true)]).run = some (.exit 0, p15_e5, [(.cells [(.d (.sl (.int .i64) x0.1)), (.d (.sl (.int .i64) x0.2))]), (.arr (.pair .str .str) ([] : List ((List UInt8) × (List UInt8))) true)]) := M.run_of_path _ [false] _ _ (by kernel_rfl) (all_f Bool.false_ne_true all_nil)
          have hp3 := turns_last (n := m + 20) (by simp) ht3
          have ht2 : (turn (hds 15 3610) 0 3610 (evC byref (evCall F S4 (m + 24)) (m + 24) 0 (hds 15) lbu15_0) p15_e14 [(.cells [(.d (.sl (.int .i64) x0.1)), (.d (.sl (.int .i64) x0.2))]), (.arr (.pair .str .str) ([] : List ((List UInt8) × (List UInt8))) true)]).run = some (.normal, p15_e15, [(.cells [(.d (.sl (.int .i64) x0.1)), (.d (.sl (.int .i64) x0.2))]), (.arr (.pair .str .str) ([] : List ((List UInt8) × (List UInt8))) true)]) := M.run_of_path _ [true, true, true, false, false, false, false, false, false, false, false, false] _ _ (by kernel_rfl) (all_t rfl (all_t rfl (all_t rfl (all_f c30 (all_f c30 (all_f c30 (all_f c30 (all_f c30 (all_f c30 (all_f c30 (all_f c30 (all_f Bool.false_ne_true all_nil))))))))))))
          have hs2 : (turns (hds 15 3610) 0 3610 (evC byref (evCall F S4 (m + 24)) (m + 24) 0 (hds 15) lbu15_0) (m + 21) p15_e15 [(.cells [(.d (.sl (.int .i64) x0.1)), (.d (.sl (.int .i64) x0.2))]), (.arr (.pair .str .str) ([] : List ((List UInt8) × (List UInt8))) true)]).run = some (.exit 0, p15_e5, [(.cells [(.d (.sl (.int .i64) x0.1)), (.d (.sl (.int .i64) x0.2))]), (.arr (.pair .str .str) ([] : List ((List UInt8) × (List UInt8))) true)]) := Eq.mp (by kernel_rfl) hp3
          have hp2 := turns_step ht2 hs2
          have ht1 : (turn (hds 15 3610) 0 3610 (evC byref (evCall F S4 (m + 24)) (m + 24) 0 (hds 15) lbu15_0) p15_e13 [(.cells [(.d (.sl (.int .i64) x0.1)), (.d (.sl (.int .i64) x0.2))]), (.arr (.pair .str .str) ([] : List ((List UInt8) × (List UInt8))) true)]).run = some (.normal, p15_e14, [(.cells [(.d (.sl (.int .i64) x0.1)), (.d (.sl (.int .i64) x0.2))]), (.arr (.pair .str .str) ([] : List ((List UInt8) × (List UInt8))) true)]) := M.run_of_path _ [true, true, true, false, false, false, false, false, false, false, false, false] _ _ (by kernel_rfl) (all_t rfl (all_t rfl (all_t rfl (all_f c18 (all_f c18 (all_f c18 (all_f c18 (all_f c18 (all_f c18 (all_f c18 (all_f c18 (all_f Bool.false_ne_true all_nil))))))))))))
          have hs1 : (turns (hds 15 3610) 0 3610 (evC byref (evCall F S4 (m + 24)) (m + 24) 0 (hds 15) lbu15_0) (m + 22) p15_e14 [(.cells [(.d (.sl (.int .i64) x0.1)), (.d (.sl (.int .i64) x0.2))]), (.arr (.pair .str .str) ([] : List ((List UInt8) × (List UInt8))) true)]).run = some (.exit 0, p15_e5, [(.cells [(.d (.sl (.int .i64) x0.1)), (.d (.sl (.int .i64) x0.2))]), (.arr (.pair .str .str) ([] : List ((List UInt8) × (List UInt8))) true)]) := Eq.mp (by kernel_rfl) hp2
          have hp1 := turns_step ht1 hs1
          have ht0 : (turn (hds 15 3610) 0 3610 (evC byref (evCall F S4 (m + 24)) (m + 24) 0 (hds 15) lbu15_0) p15_e6 [(.cells [(.d (.sl (.int .i64) x0.1)), (.d (.sl (.int .i64) x0.2))]), (.arr (.pair .str .str) ([] : List ((List UInt8) × (List UInt8))) true)]).run = some (.normal, p15_e13, [(.cells [(.d (.sl (.int .i64) x0.1)), (.d (.sl (.int .i64) x0.2))]), (.arr (.pair .str .str) ([] : List ((List UInt8) × (List UInt8))) true)]) := M.run_of_path _ [true, true, true, false, false, false, false, false, false, false, false, false] _ _ (by kernel_rfl) (all_t rfl (all_t rfl (all_t rfl (all_f c6 (all_f c6 (all_f c6 (all_f c6 (all_f c6 (all_f c6 (all_f c6 (all_f c6 (all_f Bool.false_ne_true all_nil))))))))))))
          have hs0 : (turns (hds 15 3610) 0 3610 (evC byref (evCall F S4 (m + 24)) (m + 24) 0 (hds 15) lbu15_0) (m + 23) p15_e13 [(.cells [(.d (.sl (.int .i64) x0.1)), (.d (.sl (.int .i64) x0.2))]), (.arr (.pair .str .str) ([] : List ((List UInt8) × (List UInt8))) true)]).run = some (.exit 0, p15_e5, [(.cells [(.d (.sl (.int .i64) x0.1)), (.d (.sl (.int .i64) x0.2))]), (.arr (.pair .str .str) ([] : List ((List UInt8) × (List UInt8))) true)]) := Eq.mp (by kernel_rfl) hp1
          have hp0 := turns_step ht0 hs0
          exact Eq.trans (Eq.mp (by kernel_rfl) hp0) hq
        cases hp

def valuesG : List (List UInt8) := [([120] : List UInt8), ([121] : List UInt8), ([120, 121] : List UInt8), ([49] : List UInt8), ([34] : List UInt8), ([92] : List UInt8), ([123, 125] : List UInt8), ([122, 32, 122] : List UInt8)]
def bit1 (l : List Int) (i : Int) (j : Nat) : Bool := decide (i < (((List.length l) : Nat) : Int)) && ((IntKind.wrap .i64 ((((BitVec.ofInt 64 (List.getD l j 0) &&& BitVec.ofInt 64 (1)).toNat : Nat) : Int))) == (1))
def valG (l : List Int) (i : Int) : List UInt8 := List.getD valuesG (Int.toNat (withinI (pickG l i) (0) (7))) ([] : List UInt8)
/-- A set of numbers. -/
def setG (k : List Int × List Int) : LB := (if bit1 k.1 0 0 then [(([97] : List UInt8), valG k.2 0)] else []) ++ (if bit1 k.1 1 1 then [(([98] : List UInt8), valG k.2 1)] else []) ++ (if bit1 k.1 2 2 then [(([99] : List UInt8), valG k.2 2)] else [])
theorem set15 (k : List Int × List Int) (_ : true = true) : ∃ m, p15 m k = some (setG k) := by
  refine ⟨0, ?_⟩
  have p0 : pickPre k.2 (0) = true := decide_eq_true (by omega)
  have p1 : pickPre k.2 (1) = true := decide_eq_true (by omega)
  have p2 : pickPre k.2 (2) = true := decide_eq_true (by omega)
  have w : ∀ n : Int, 0 ≤ withinI n (0) (7) ∧ withinI n (0) (7) < 8 := fun n => by unfold withinI; omega
  have w1 : ∀ n : Int, decide (0 ≤ (withinI n (0) (7))) = true := fun n => decide_eq_true (w n).1
  have w2 : ∀ n : Int, decide ((withinI n (0) (7)) < 8) = true := fun n => decide_eq_true (w n).2
  unfold p15 setG bit1 valG valuesG
  simp only [p0, p1, p2, w1, w2, ↓reduceIte]
  generalize decide (0 < (((List.length k.1) : Nat) : Int)) = a0
  generalize decide (1 < (((List.length k.1) : Nat) : Int)) = a1
  generalize decide (2 < (((List.length k.1) : Nat) : Int)) = a2
  generalize ((IntKind.wrap .i64 ((((BitVec.ofInt 64 (List.getD k.1 0 0) &&& BitVec.ofInt 64 (1)).toNat : Nat) : Int))) == (1)) = b0
  generalize ((IntKind.wrap .i64 ((((BitVec.ofInt 64 (List.getD k.1 1 0) &&& BitVec.ofInt 64 (1)).toNat : Nat) : Int))) == (1)) = b1
  generalize ((IntKind.wrap .i64 ((((BitVec.ofInt 64 (List.getD k.1 2 0) &&& BitVec.ofInt 64 (1)).toNat : Nat) : Int))) == (1)) = b2
  cases a0 <;> cases b0 <;> cases a1 <;> cases b1 <;> cases a2 <;> cases b2 <;> rfl
def s15 : List AV → Boxes → M (AV × Boxes) := normS [.val (.pair (.sl (.int .i64)) (.sl (.int .i64)))] [] fun xs B => match xs, B with
  | [(.agg [(.d (.sl (.int .i64) c1)), (.d (.sl (.int .i64) c2))])], [] => .chk (true) (.ret ((.d (.sl (.pair .str .str) (setG ((c1, c2))))), []))
  | _, _ => .fail
theorem s15_at : CallAt Tryd.prog 15 s15 := by
  refine CallAt.norm (CallAt.weakE (g := fun n => evCall F S4 n 15) (fun n => evCall_atH mixed kinds hds S4 S4_ok n 15) fun xs B r' B' hr => ?_) _ _
  split at hr
  · rename_i c1 c2
    obtain ⟨hp, hr⟩ := (M.run_chk _ _ _).1 hr
    simp only [M.run, Option.some.injEq, Prod.mk.injEq] at hr
    obtain ⟨rfl, rfl⟩ := hr
    obtain ⟨m, hm⟩ := set15 ((c1, c2)) hp
    obtain ⟨r, B1, h1, h2, h3, h4⟩ := p15_ok m ((c1, c2)) _ hm
    exact ⟨m + 25, r, B1, h1, by simp, h2, h3, h4⟩
  · simp [M.run] at hr
noncomputable def S5 : FuncId → Option (List AV → Boxes → M (AV × Boxes)) := fun f => if f = 15 then some s15 else S4 f
set_option maxHeartbeats 20000000 in
theorem S5_ok : ∀ f s, S5 f = some s → CallAt Tryd.prog f s := by
  intro f s h
  unfold S5 at h
  split at h
  · rename_i e; subst e; cases h; exact s15_at
  · exact S4_ok f s h

end Go.Proofs.YtghkbjflejgieaaDoor.Dec
namespace Go.Proofs.YtghkbjflejgieaaDoor.Dec
open Go.Ev
set_option linter.unusedVariables false
set_option linter.unusedSimpArgs false
set_option maxRecDepth 100000
theorem runs6 : Known Tryd.prog 6 [] (.d (.bool true)) := known Go.Proofs.YtghkbjflejgieaaDoor.Ev.mixed (kinds := Go.Proofs.YtghkbjflejgieaaDoor.Ev.kinds) (n := 300) Go.Proofs.YtghkbjflejgieaaDoor.Ev.S_ok (by kernel_rfl)
def trueG : List D → M AV
  | [] => .ret (.d (.bool true))
  | _ => .fail
theorem true6 : CallAt Tryd.prog 6 (plainV trueG) := by
  refine plainV_at fun ds r hr => ?_
  unfold trueG at hr
  split at hr
  · simp only [M.run, Option.some.injEq] at hr
    subst hr
    exact runs6
  · simp [M.run] at hr
theorem runs3 : Known Tryd.prog 3 [] (.d (.bool true)) := known Go.Proofs.YtghkbjflejgieaaDoor.Ev.mixed (kinds := Go.Proofs.YtghkbjflejgieaaDoor.Ev.kinds) (n := 300) Go.Proofs.YtghkbjflejgieaaDoor.Ev.S_ok (by kernel_rfl)
theorem true3 : CallAt Tryd.prog 3 (plainV trueG) := by
  refine plainV_at fun ds r hr => ?_
  unfold trueG at hr
  split at hr
  · simp only [M.run, Option.some.injEq] at hr
    subst hr
    exact runs3
  · simp [M.run] at hr

noncomputable def S6 : FuncId → Option (List AV → Boxes → M (AV × Boxes)) := fun f => if f = 6 then some (plainV trueG) else S5 f
set_option maxHeartbeats 20000000 in
theorem S6_ok : ∀ f s, S6 f = some s → CallAt Tryd.prog f s := by
  intro f s h
  unfold S6 at h
  split at h
  · rename_i e; subst e; cases h; exact true6
  · exact S5_ok f s h

noncomputable def S7 : FuncId → Option (List AV → Boxes → M (AV × Boxes)) := fun f => if f = 3 then some (plainV trueG) else S6 f
set_option maxHeartbeats 20000000 in
theorem S7_ok : ∀ f s, S7 f = some s → CallAt Tryd.prog f s := by
  intro f s h
  unfold S7 at h
  split at h
  · rename_i e; subst e; cases h; exact true3
  · exact S6_ok f s h

end Go.Proofs.YtghkbjflejgieaaDoor.Dec
namespace Go.Proofs.YtghkbjflejgieaaDoor.Dec
open Go.Ev
set_option linter.unusedVariables false
set_option linter.unusedSimpArgs false
set_option maxRecDepth 100000
noncomputable def S8 : FuncId → Option (List AV → Boxes → M (AV × Boxes)) := fun f => if f = 33 then some (plainS (cloneG (.pair .str .str) 32)) else S7 f
set_option maxHeartbeats 20000000 in
theorem S8_ok : ∀ f s, S8 f = some s → CallAt Tryd.prog f s := by
  intro f s h
  unfold S8 at h
  split at h
  · rename_i e; subst e; cases h; exact Go.Proofs.YtghkbjflejgieaaDoor.Ev.clone33
  · exact S7_ok f s h

noncomputable def fn31 : AFn := (F 31).getD ⟨0, [], .bad, false, false, noHd⟩
noncomputable def body31 : AC := fn31.body
def l31_0 (m : Nat) : Nat → List ((List UInt8) × (List UInt8)) → List ((List UInt8) × (List UInt8)) → Int → Int → Option (Nat × Int)
  | 0, _, _, _, _ => none
  | n + 1, x0, x1, s12, s13 => if decide (s13 < s12) = true then
      if decide (0 ≤ s13) = true then
        if decide (s13 < (((List.length x0) : Nat) : Int)) = true then
          if decide (s13 < (((List.length x1) : Nat) : Int)) = true then
            if (((List.getD x0 (Int.toNat s13) (([] : List UInt8), ([] : List UInt8))).1 == (List.getD x1 (Int.toNat s13) (([] : List UInt8), ([] : List UInt8))).1) && (((List.getD x0 (Int.toNat s13) (([] : List UInt8), ([] : List UInt8))).2 == (List.getD x1 (Int.toNat s13) (([] : List UInt8), ([] : List UInt8))).2) && true)) = true then
              l31_0 m n x0 x1 s12 ((IntKind.wrap .i64 (s13 + (1))))
            else
              some (0, s13)
          else
            none
        else
          none
      else
        none
    else
      some (1, s13)
def l31_0D : Nat × Int := (0, 0)
@[reducible] def l31_0R (m n : Nat) (x0 : List ((List UInt8) × (List UInt8))) (x1 : List ((List UInt8) × (List UInt8))) (s12 : Int) (s13 : Int) : Nat × Int := Option.getD (l31_0 m n x0 x1 s12 s13) l31_0D
def l31_0H (x0 : List ((List UInt8) × (List UInt8))) (x1 : List ((List UInt8) × (List UInt8))) (s12 : Int) (s13 : Int) : Env := [(.d (.sl (.pair .str .str) x0)), (.d (.sl (.pair .str .str) x1)), .top, .top, .top, .top, .top, .top, .top, .top, .top, .top, (.d (.int .i64 s12)), (.d (.int .i64 s13)), .top, .top, .top, .top, .top, .top, .top, .top, .top, .top, .top, .top]
def l31_0B (x0 : List ((List UInt8) × (List UInt8))) (x1 : List ((List UInt8) × (List UInt8))) (s12 : Int) (s13 : Int) : Boxes := []
def l31_0E (x0 : List ((List UInt8) × (List UInt8))) (x1 : List ((List UInt8) × (List UInt8))) (s12 : Int) (s13 : Int) : Nat → AEx × Env × Boxes
  | 0 => (.ret, [(.d (.sl (.pair .str .str) x0)), (.d (.sl (.pair .str .str) x1)), .top, .top, (.d (.bool false)), (.d (.int .i64 s13)), .top, .top, .top, .top, .top, .top, (.d (.int .i64 s12)), (.d (.int .i64 s13)), (.d (.bool (decide (s13 < s12)))), (.d (.int .i64 s13)), (.d (.sl (.pair .str .str) x0)), (.d (.int .i64 s13)), (.cptr [(.str (List.getD x0 (Int.toNat s13) (([] : List UInt8), ([] : List UInt8))).1), (.str (List.getD x0 (Int.toNat s13) (([] : List UInt8), ([] : List UInt8))).2)] 0), (.agg [(.d (.str (List.getD x0 (Int.toNat s13) (([] : List UInt8), ([] : List UInt8))).1)), (.d (.str (List.getD x0 (Int.toNat s13) (([] : List UInt8), ([] : List UInt8))).2))]), (.d (.sl (.pair .str .str) x1)), (.d (.int .i64 s13)), (.cptr [(.str (List.getD x1 (Int.toNat s13) (([] : List UInt8), ([] : List UInt8))).1), (.str (List.getD x1 (Int.toNat s13) (([] : List UInt8), ([] : List UInt8))).2)] 0), (.agg [(.d (.str (List.getD x1 (Int.toNat s13) (([] : List UInt8), ([] : List UInt8))).1)), (.d (.str (List.getD x1 (Int.toNat s13) (([] : List UInt8), ([] : List UInt8))).2))]), (.d (.bool (!(((List.getD x0 (Int.toNat s13) (([] : List UInt8), ([] : List UInt8))).1 == (List.getD x1 (Int.toNat s13) (([] : List UInt8), ([] : List UInt8))).1) && (((List.getD x0 (Int.toNat s13) (([] : List UInt8), ([] : List UInt8))).2 == (List.getD x1 (Int.toNat s13) (([] : List UInt8), ([] : List UInt8))).2) && true))))), .top], [.dead, .dead, .dead, .dead, .dead, .dead, .dead, .dead, .dead, .dead, .dead, .dead, .dead, .dead, .dead, .dead, .dead, .dead, .dead, .dead, .dead, .dead, .dead, .dead, .dead, .dead, .dead, .dead, .dead, .dead, .dead, .dead, .dead, .dead, .dead, .dead])
  | _ => (.exit 0, [(.d (.sl (.pair .str .str) x0)), (.d (.sl (.pair .str .str) x1)), .top, .top, .top, .top, .top, .top, .top, .top, .top, .top, (.d (.int .i64 s12)), (.d (.int .i64 s13)), (.d (.bool (decide (s13 < s12)))), .top, .top, .top, .top, .top, .top, .top, .top, .top, .top, .top], [])
noncomputable def lbl31_0 : AC := loopBody 12291 body31

set_option maxHeartbeats 20000000 in
theorem l31_0_w0 (m n : Nat) (x0 : List ((List UInt8) × (List UInt8))) (x1 : List ((List UInt8) × (List UInt8))) (s12 : Int) (s13 : Int) (r : AEx × Env × Boxes) (c0 : decide (s13 < s12) = true) (c1 : decide (0 ≤ s13) = true) (c2 : decide (s13 < (((List.length x0) : Nat) : Int)) = true) (c4 : decide (s13 < (((List.length x1) : Nat) : Int)) = true) (c5 : (((List.getD x0 (Int.toNat s13) (([] : List UInt8), ([] : List UInt8))).1 == (List.getD x1 (Int.toNat s13) (([] : List UInt8), ([] : List UInt8))).1) && (((List.getD x0 (Int.toNat s13) (([] : List UInt8), ([] : List UInt8))).2 == (List.getD x1 (Int.toNat s13) (([] : List UInt8), ([] : List UInt8))).2) && true)) = true) (ih : (turns (hds 31 12291) 0 12291 (evC byref (evCall F S8 (m + 24)) (m + 24) 0 (hds 31) lbl31_0) n (l31_0H x0 x1 s12 ((IntKind.wrap .i64 (s13 + (1))))) (l31_0B x0 x1 s12 ((IntKind.wrap .i64 (s13 + (1)))))).run = some r) : (turns (hds 31 12291) 0 12291 (evC byref (evCall F S8 (m + 24)) (m + 24) 0 (hds 31) lbl31_0) (n + 1) (l31_0H x0 x1 s12 s13) (l31_0B x0 x1 s12 s13)).run = some r := by
  exact turns_step (M.run_of_path _ [true, true, true, true, true, false] _ _ (by kernel_rfl) (all_t c0 (all_t c1 (all_t c2 (all_t c1 (all_t c4 (all_nt c5 all_nil))))))) ih
set_option maxHeartbeats 20000000 in
theorem l31_0_w1 (m n : Nat) (x0 : List ((List UInt8) × (List UInt8))) (x1 : List ((List UInt8) × (List UInt8))) (s12 : Int) (s13 : Int) (c0 : decide (s13 < s12) = true) (c1 : decide (0 ≤ s13) = true) (c2 : decide (s13 < (((List.length x0) : Nat) : Int)) = true) (c4 : decide (s13 < (((List.length x1) : Nat) : Int)) = true) (c5 : ¬ (((List.getD x0 (Int.toNat s13) (([] : List UInt8), ([] : List UInt8))).1 == (List.getD x1 (Int.toNat s13) (([] : List UInt8), ([] : List UInt8))).1) && (((List.getD x0 (Int.toNat s13) (([] : List UInt8), ([] : List UInt8))).2 == (List.getD x1 (Int.toNat s13) (([] : List UInt8), ([] : List UInt8))).2) && true)) = true) : (turns (hds 31 12291) 0 12291 (evC byref (evCall F S8 (m + 24)) (m + 24) 0 (hds 31) lbl31_0) (n + 1) (l31_0H x0 x1 s12 s13) (l31_0B x0 x1 s12 s13)).run = some (.ret, [(.d (.sl (.pair .str .str) x0)), (.d (.sl (.pair .str .str) x1)), .top, .top, (.d (.bool false)), (.d (.int .i64 s13)), .top, .top, .top, .top, .top, .top, (.d (.int .i64 s12)), (.d (.int .i64 s13)), (.d (.bool (decide (s13 < s12)))), (.d (.int .i64 s13)), (.d (.sl (.pair .str .str) x0)), (.d (.int .i64 s13)), (.cptr [(.str (List.getD x0 (Int.toNat s13) (([] : List UInt8), ([] : List UInt8))).1), (.str (List.getD x0 (Int.toNat s13) (([] : List UInt8), ([] : List UInt8))).2)] 0), (.agg [(.d (.str (List.getD x0 (Int.toNat s13) (([] : List UInt8), ([] : List UInt8))).1)), (.d (.str (List.getD x0 (Int.toNat s13) (([] : List UInt8), ([] : List UInt8))).2))]), (.d (.sl (.pair .str .str) x1)), (.d (.int .i64 s13)), (.cptr [(.str (List.getD x1 (Int.toNat s13) (([] : List UInt8), ([] : List UInt8))).1), (.str (List.getD x1 (Int.toNat s13) (([] : List UInt8), ([] : List UInt8))).2)] 0), (.agg [(.d (.str (List.getD x1 (Int.toNat s13) (([] : List UInt8), ([] : List UInt8))).1)), (.d (.str (List.getD x1 (Int.toNat s13) (([] : List UInt8), ([] : List UInt8))).2))]), (.d (.bool (!(((List.getD x0 (Int.toNat s13) (([] : List UInt8), ([] : List UInt8))).1 == (List.getD x1 (Int.toNat s13) (([] : List UInt8), ([] : List UInt8))).1) && (((List.getD x0 (Int.toNat s13) (([] : List UInt8), ([] : List UInt8))).2 == (List.getD x1 (Int.toNat s13) (([] : List UInt8), ([] : List UInt8))).2) && true))))), .top], [.dead, .dead, .dead, .dead, .dead, .dead, .dead, .dead, .dead, .dead, .dead, .dead, .dead, .dead, .dead, .dead, .dead, .dead, .dead, .dead, .dead, .dead, .dead, .dead, .dead, .dead, .dead, .dead, .dead, .dead, .dead, .dead, .dead, .dead, .dead, .dead]) := by
  exact turns_last (by simp) (M.run_of_path _ [true, true, true, true, true, true] _ _ (by kernel_rfl) (all_t c0 (all_t c1 (all_t c2 (all_t c1 (all_t c4 (all_nf c5 all_nil))))))) 
set_option maxHeartbeats 20000000 in
theorem l31_0_w2 (m n : Nat) (x0 : List ((List UInt8) × (List UInt8))) (x1 : List ((List UInt8) × (List UInt8))) (s12 : Int) (s13 : Int) (c0 : ¬ decide (s13 < s12) = true) : (turns (hds 31 12291) 0 12291 (evC byref (evCall F S8 (m + 24)) (m + 24) 0 (hds 31) lbl31_0) (n + 1) (l31_0H x0 x1 s12 s13) (l31_0B x0 x1 s12 s13)).run = some (.exit 0, [(.d (.sl (.pair .str .str) x0)), (.d (.sl (.pair .str .str) x1)), .top, .top, .top, .top, .top, .top, .top, .top, .top, .top, (.d (.int .i64 s12)), (.d (.int .i64 s13)), (.d (.bool (decide (s13 < s12)))), .top, .top, .top, .top, .top, .top, .top, .top, .top, .top, .top], []) := by
  exact turns_last (by simp) (M.run_of_path _ [false] _ _ (by kernel_rfl) (all_f c0 all_nil)) 

set_option maxHeartbeats 20000000 in
theorem l31_0_step (m n : Nat) (ih : ∀ (x0 : List ((List UInt8) × (List UInt8))) (x1 : List ((List UInt8) × (List UInt8))) (s12 : Int) (s13 : Int) (q : Nat × Int), l31_0 m n x0 x1 s12 s13 = some q → (turns (hds 31 12291) 0 12291 (evC byref (evCall F S8 (m + 24)) (m + 24) 0 (hds 31) lbl31_0) n (l31_0H x0 x1 s12 s13) (l31_0B x0 x1 s12 s13)).run = some (l31_0E (x0) (x1) (s12) (q.2) q.1)) (x0 : List ((List UInt8) × (List UInt8))) (x1 : List ((List UInt8) × (List UInt8))) (s12 : Int) (s13 : Int) (q : Nat × Int) (h : l31_0 m (n + 1) x0 x1 s12 s13 = some q) : (turns (hds 31 12291) 0 12291 (evC byref (evCall F S8 (m + 24)) (m + 24) 0 (hds 31) lbl31_0) (n + 1) (l31_0H x0 x1 s12 s13) (l31_0B x0 x1 s12 s13)).run = some (l31_0E (x0) (x1) (s12) (q.2) q.1) := by
  rw [l31_0] at h
  refine ite_cases h (fun c0 h => ?_) (fun c0 h => ?_)
  · skip
    refine ite_cases h (fun c1 h => ?_) (fun c1 h => ?_)
    · skip
      refine ite_cases h (fun c2 h => ?_) (fun c2 h => ?_)
      · skip
        refine ite_cases h (fun c4 h => ?_) (fun c4 h => ?_)
        · skip
          refine ite_cases h (fun c5 h => ?_) (fun c5 h => ?_)
          · skip
            exact l31_0_w0 m n x0 x1 s12 s13 _ c0 c1 c2 c4 c5 (ih _ _ _ _ q h)
          · skip
            cases h
            exact l31_0_w1 m n x0 x1 s12 s13 c0 c1 c2 c4 c5
        · skip
          cases h
      · skip
        cases h
    · skip
      cases h
  · skip
    cases h
    exact l31_0_w2 m n x0 x1 s12 s13 c0
set_option maxHeartbeats 20000000 in
theorem l31_0_ok (m : Nat) : ∀ (n : Nat) (x0 : List ((List UInt8) × (List UInt8))) (x1 : List ((List UInt8) × (List UInt8))) (s12 : Int) (s13 : Int) (q : Nat × Int), l31_0 m n x0 x1 s12 s13 = some q → (turns (hds 31 12291) 0 12291 (evC byref (evCall F S8 (m + 24)) (m + 24) 0 (hds 31) lbl31_0) n (l31_0H x0 x1 s12 s13) (l31_0B x0 x1 s12 s13)).run = some (l31_0E (x0) (x1) (s12) (q.2) q.1)
  | 0, x0, x1, s12, s13, q, h => by cases h
  | n + 1, x0, x1, s12, s13, q, h => l31_0_step m n (l31_0_ok m n) x0 x1 s12 s13 q h

def p31 (m : Nat) (x0 : List ((List UInt8) × (List UInt8))) (x1 : List ((List UInt8) × (List UInt8))) : Option (Bool) :=
  if ((((List.length x0) : Nat) : Int) != (((List.length x1) : Nat) : Int)) = true then
    some (false)
  else
    if (Option.isSome (l31_0 m (m + 24) x0 x1 ((((List.length x0) : Nat) : Int)) 0)) = true then
      if ((l31_0R m (m + 24) x0 x1 ((((List.length x0) : Nat) : Int)) 0).1 == 0) = true then
        some (false)
      else
        if ((l31_0R m (m + 24) x0 x1 ((((List.length x0) : Nat) : Int)) 0).1 == 1) = true then
          some (true)
        else
          none
    else
      none
set_option maxHeartbeats 20000000 in
theorem p31_ok (m : Nat) (x0 : List ((List UInt8) × (List UInt8))) (x1 : List ((List UInt8) × (List UInt8))) (q : Bool) (h : p31 m x0 x1 = some q) : ∃ r B1, (evCall F S8 (m + 25) 31 [(.d (.sl (.pair .str .str) x0)), (.d (.sl (.pair .str .str) x1))] []).run = some (r, B1) ∧ 0 ≤ B1.length ∧ wkR B1 [] r (.d (.bool (q))) ∧ wkBs B1 [] 0 [] := by
  unfold p31 at h
  refine ite_cases h (fun c0 h => ?_) (fun c0 h => ?_)
  · skip
    cases h
    refine ⟨(.d (.bool false)), [], runT_ok (LS := (fun k => none)) (fn := fn31) (vis := []) (by kernel_rfl) rfl (by kernel_rfl) (M.run_of_path _ [true] _ _ (by kernel_rfl) (all_t c0 all_nil)) ?_, by simp, (wkR.one (wkV.one (wk1.eq rfl))), trivial⟩
    intro p hp; cases hp
  · skip
    refine ite_cases h (fun c1 h => ?_) (fun c1 h => ?_)
    · skip
      refine ite_cases h (fun c2 h => ?_) (fun c2 h => ?_)
      · skip
        cases h
        refine ⟨(.d (.bool false)), [], runT_ok (LS := (fun k => if k = 12291 then some (l31_0E x0 x1 (((((List.length x0) : Nat) : Int))) ((l31_0R m (m + 24) x0 x1 ((((List.length x0) : Nat) : Int)) 0).2) 0) else none)) (fn := fn31) (vis := [(12291, l31_0H x0 x1 ((((List.length x0) : Nat) : Int)) 0, l31_0B x0 x1 ((((List.length x0) : Nat) : Int)) 0)]) (by kernel_rfl) rfl (by kernel_rfl) (M.run_of_path _ [false] _ _ (by kernel_rfl) (all_f c0 all_nil)) ?_, by simp, (wkR.one (wkV.one (wk1.eq rfl))), trivial⟩
        intro p hp p2 hq
        rcases List.mem_cons.1 hp with rfl | hp
        · skip
          have h3 := l31_0_ok m (m + 24) x0 x1 ((((List.length x0) : Nat) : Int)) 0 _ (some_getD (d := l31_0D) c1)
          rw [eq_of_beq c2] at h3
          exact Eq.trans (Eq.mp (by kernel_rfl) h3) hq
        cases hp
      · skip
        refine ite_cases h (fun c3 h => ?_) (fun c3 h => ?_)
        · skip
          cases h
          refine ⟨(.d (.bool true)), [], runT_ok (LS := (fun k => if k = 12291 then some (l31_0E x0 x1 (((((List.length x0) : Nat) : Int))) ((l31_0R m (m + 24) x0 x1 ((((List.length x0) : Nat) : Int)) 0).2) 1) else none)) (fn := fn31) (vis := [(12291, l31_0H x0 x1 ((((List.length x0) : Nat) : Int)) 0, l31_0B x0 x1 ((((List.length x0) : Nat) : Int)) 0)]) (by kernel_rfl) rfl (by kernel_rfl) (M.run_of_path _ [false] _ _ (by kernel_rfl) (all_f c0 all_nil)) ?_, by simp, (wkR.one (wkV.one (wk1.eq rfl))), trivial⟩
          intro p hp p2 hq
          rcases List.mem_cons.1 hp with rfl | hp
          · skip
            have h3 := l31_0_ok m (m + 24) x0 x1 ((((List.length x0) : Nat) : Int)) 0 _ (some_getD (d := l31_0D) c1)
            rw [eq_of_beq c3] at h3
            exact Eq.trans (Eq.mp (by kernel_rfl) h3) hq
          cases hp
        · skip
          cases h
    · skip
      cases h

theorem eq31_loop (m : Nat) (a b : List ((List UInt8) × (List UInt8))) (hl : a.length = b.length) (hb : a.length < 4611686018427387904) : ∀ n k, k ≤ a.length → a.length - k < n → ∃ j, l31_0 m n a b (((List.length a) : Nat) : Int) (k : Nat) = some (if a.drop k == b.drop k then 1 else 0, j)
  | 0, k, _, h => by omega
  | n + 1, k, hk, hn => by
    rw [l31_0]
    by_cases h : k < a.length
    · have hs : ∀ u v : (List UInt8) × (List UInt8), ((u.1 == v.1) && ((u.2 == v.2) && true)) = (u == v) := fun u v => by rw [Bool.and_true]; rfl
      have e1 : decide (((k : Nat) : Int) < ((a.length : Nat) : Int)) = true := decide_eq_true (by omega)
      have e2 : decide ((0 : Int) ≤ ((k : Nat) : Int)) = true := decide_eq_true (by omega)
      have e3 : decide (((k : Nat) : Int) < ((b.length : Nat) : Int)) = true := decide_eq_true (by omega)
      simp only [e1, e2, e3, if_true, Int.toNat_natCast,hs]
      rw [drop_getD a k (([] : List UInt8), ([] : List UInt8)) h, drop_getD b k (([] : List UInt8), ([] : List UInt8)) (by omega)]
      have ew : IntKind.wrap .i64 (((k : Nat) : Int) + (1)) = ((k + 1 : Nat) : Int) := by rw [wrap_id (by omega) (by omega)]; rfl
      rw [ew]
      obtain ⟨j, hj⟩ := eq31_loop m a b hl hb n (k + 1) (by omega) (by omega)
      have hc : ((a.getD k (([] : List UInt8), ([] : List UInt8))) :: a.drop (k + 1) == (b.getD k (([] : List UInt8), ([] : List UInt8))) :: b.drop (k + 1)) = (((a.getD k (([] : List UInt8), ([] : List UInt8))) == (b.getD k (([] : List UInt8), ([] : List UInt8)))) && (a.drop (k + 1) == b.drop (k + 1))) := rfl
      rw [hc]
      rcases Bool.eq_false_or_eq_true ((a.getD k (([] : List UInt8), ([] : List UInt8))) == (b.getD k (([] : List UInt8), ([] : List UInt8)))) with he | he
      · exact ⟨j, by simp only [he, hj]; simp⟩
      · exact ⟨(k : Nat), by simp only [he]; simp⟩
    · have e1 : decide (((k : Nat) : Int) < ((a.length : Nat) : Int)) = false := decide_eq_false (by omega)
      refine ⟨(k : Nat), ?_⟩
      simp only [e1, Bool.false_eq_true, if_false]
      rw [List.drop_eq_nil_of_le (by omega), List.drop_eq_nil_of_le (by omega)]
      rfl
theorem eq31 (a b : List ((List UInt8) × (List UInt8))) (h : decide (List.length a < 4611686018427387904) = true) : ∃ m, p31 m a b = some (a == b) := by
  have hb := of_decide_eq_true h
  refine ⟨a.length, ?_⟩
  unfold p31 l31_0R
  by_cases hl : a.length = b.length
  · have e0 : ((((List.length a) : Nat) : Int) != (((List.length b) : Nat) : Int)) = false := by simp [hl]
    obtain ⟨j, hj⟩ := eq31_loop a.length a b hl hb (a.length + 24) 0 (by omega) (by omega)
    simp only [Int.natCast_zero, List.drop_zero] at hj
    rw [e0]
    simp only [Bool.false_eq_true, if_false]
    rw [hj]
    cases hab : a == b <;> simp [hab]
  · have e0 : ((((List.length a) : Nat) : Int) != (((List.length b) : Nat) : Int)) = true := by simp; omega
    rw [e0]
    have : (a == b) = false := by
      rw [beq_eq_false_iff_ne]
      intro e; rw [e] at hl; exact hl rfl
    simp [this]
def s31 : List AV → Boxes → M (AV × Boxes) := normS [.val (.sl (.pair .str .str)), .val (.sl (.pair .str .str))] [] fun xs B => match xs, B with
  | [(.d (.sl (.pair .str .str) c1)), (.d (.sl (.pair .str .str) c2))], [] => .chk (decide (List.length c1 < 4611686018427387904)) (.ret ((.d (.bool ((show List ((List UInt8) × (List UInt8)) from c1) == c2))), []))
  | _, _ => .fail
theorem s31_at : CallAt Tryd.prog 31 s31 := by
  refine CallAt.norm (CallAt.weakE (g := fun n => evCall F S8 n 31) (fun n => evCall_atH mixed kinds hds S8 S8_ok n 31) fun xs B r' B' hr => ?_) _ _
  split at hr
  · rename_i c1 c2
    obtain ⟨hp, hr⟩ := (M.run_chk _ _ _).1 hr
    simp only [M.run, Option.some.injEq, Prod.mk.injEq] at hr
    obtain ⟨rfl, rfl⟩ := hr
    obtain ⟨m, hm⟩ := eq31 c1 c2 hp
    obtain ⟨r, B1, h1, h2, h3, h4⟩ := p31_ok m c1 c2 _ hm
    exact ⟨m + 25, r, B1, h1, by simp, h2, h3, h4⟩
  · simp [M.run] at hr
noncomputable def S9 : FuncId → Option (List AV → Boxes → M (AV × Boxes)) := fun f => if f = 31 then some s31 else S8 f
set_option maxHeartbeats 20000000 in
theorem S9_ok : ∀ f s, S9 f = some s → CallAt Tryd.prog f s := by
  intro f s h
  unfold S9 at h
  split at h
  · rename_i e; subst e; cases h; exact s31_at
  · exact S8_ok f s h

end Go.Proofs.YtghkbjflejgieaaDoor.Dec
namespace Go.Proofs.YtghkbjflejgieaaDoor.Dec
open Go.Ev
set_option linter.unusedVariables false
set_option linter.unusedSimpArgs false
set_option maxRecDepth 100000
noncomputable def fn12 : AFn := (F 12).getD ⟨0, [], .bad, false, false, noHd⟩
noncomputable def body12 : AC := fn12.body
def l12_0 (m : Nat) : Nat → List ((List UInt8) × (List UInt8)) → Int → List ((List ((List UInt8) × (List UInt8) × Int)) × Int × Int) → Int → Int → Option (Nat × Int)
  | 0, _, _, _, _, _ => none
  | n + 1, x0, x1, x2, s10, s11 => if decide (s11 < s10) = true then
      if decide (0 ≤ s11) = true then
        if decide (s11 < (((List.length x2) : Nat) : Int)) = true then
          if decide ((List.getD x2 (Int.toNat s11) (([] : List ((List UInt8) × (List UInt8) × Int)), (0, 0))).2.1 ≤ x1) = true then
            if decide (x1 < (List.getD x2 (Int.toNat s11) (([] : List ((List UInt8) × (List UInt8) × Int)), (0, 0))).2.2) = true then
              if decide (List.length x0 ≤ 1000000 ∧ List.length (List.getD x2 (Int.toNat s11) (([] : List ((List UInt8) × (List UInt8) × Int)), (0, 0))).1 ≤ 9223372036854775807) = true then
                if (allG x0 (List.getD x2 (Int.toNat s11) (([] : List ((List UInt8) × (List UInt8) × Int)), (0, 0))).1) = true then
                  some (0, s11)
                else
                  l12_0 m n x0 x1 x2 s10 ((IntKind.wrap .i64 (s11 + (1))))
              else
                none
            else
              l12_0 m n x0 x1 x2 s10 ((IntKind.wrap .i64 (s11 + (1))))
          else
            l12_0 m n x0 x1 x2 s10 ((IntKind.wrap .i64 (s11 + (1))))
        else
          none
      else
        none
    else
      some (1, s11)
def l12_0D : Nat × Int := (0, 0)
@[reducible] def l12_0R (m n : Nat) (x0 : List ((List UInt8) × (List UInt8))) (x1 : Int) (x2 : List ((List ((List UInt8) × (List UInt8) × Int)) × Int × Int)) (s10 : Int) (s11 : Int) : Nat × Int := Option.getD (l12_0 m n x0 x1 x2 s10 s11) l12_0D
def l12_0H (x0 : List ((List UInt8) × (List UInt8))) (x1 : Int) (x2 : List ((List ((List UInt8) × (List UInt8) × Int)) × Int × Int)) (s10 : Int) (s11 : Int) : Env := [(.d (.sl (.pair .str .str) x0)), (.d (.int .i64 x1)), .top, .top, .top, .top, .top, .top, .top, (.d (.sl (.pair (.sl (.pair .str (.pair .str (.int .i64)))) (.pair (.int .i64) (.int .i64))) x2)), (.d (.int .i64 s10)), (.d (.int .i64 s11)), .top, .top, .top, .top, .top, .top, .top, .top, .top, .top, .top, .top, .top, .top, .top, .top, .top, .top, .top, .top]
def l12_0B (x0 : List ((List UInt8) × (List UInt8))) (x1 : Int) (x2 : List ((List ((List UInt8) × (List UInt8) × Int)) × Int × Int)) (s10 : Int) (s11 : Int) : Boxes := []
def l12_0E (x0 : List ((List UInt8) × (List UInt8))) (x1 : Int) (x2 : List ((List ((List UInt8) × (List UInt8) × Int)) × Int × Int)) (s10 : Int) (s11 : Int) : Nat → AEx × Env × Boxes
  | 0 => (.ret, [(.d (.sl (.pair .str .str) x0)), (.d (.int .i64 x1)), .top, .top, .top, .top, (.d (.bool true)), .top, (.ptr 0 0), (.d (.sl (.pair (.sl (.pair .str (.pair .str (.int .i64)))) (.pair (.int .i64) (.int .i64))) x2)), (.d (.int .i64 s10)), (.d (.int .i64 s11)), (.d (.bool (decide (s11 < s10)))), (.cptr [(.sl (.pair .str (.pair .str (.int .i64))) (List.getD x2 (Int.toNat s11) (([] : List ((List UInt8) × (List UInt8) × Int)), (0, 0))).1), (.int .i64 (List.getD x2 (Int.toNat s11) (([] : List ((List UInt8) × (List UInt8) × Int)), (0, 0))).2.1), (.int .i64 (List.getD x2 (Int.toNat s11) (([] : List ((List UInt8) × (List UInt8) × Int)), (0, 0))).2.2)] 0), (.agg [(.d (.sl (.pair .str (.pair .str (.int .i64))) (List.getD x2 (Int.toNat s11) (([] : List ((List UInt8) × (List UInt8) × Int)), (0, 0))).1)), (.d (.int .i64 (List.getD x2 (Int.toNat s11) (([] : List ((List UInt8) × (List UInt8) × Int)), (0, 0))).2.1)), (.d (.int .i64 (List.getD x2 (Int.toNat s11) (([] : List ((List UInt8) × (List UInt8) × Int)), (0, 0))).2.2))]), (.ptr 0 1), (.d (.int .i64 (List.getD x2 (Int.toNat s11) (([] : List ((List UInt8) × (List UInt8) × Int)), (0, 0))).2.1)), (.d (.int .i64 x1)), (.d (.bool (decide ((List.getD x2 (Int.toNat s11) (([] : List ((List UInt8) × (List UInt8) × Int)), (0, 0))).2.1 ≤ x1)))), (.d (.bool (decide ((List.getD x2 (Int.toNat s11) (([] : List ((List UInt8) × (List UInt8) × Int)), (0, 0))).2.1 ≤ x1)))), (.d (.int .i64 x1)), (.ptr 0 2), (.d (.int .i64 (List.getD x2 (Int.toNat s11) (([] : List ((List UInt8) × (List UInt8) × Int)), (0, 0))).2.2)), (.d (.bool (decide (x1 < (List.getD x2 (Int.toNat s11) (([] : List ((List UInt8) × (List UInt8) × Int)), (0, 0))).2.2)))), (.d (.bool (decide (x1 < (List.getD x2 (Int.toNat s11) (([] : List ((List UInt8) × (List UInt8) × Int)), (0, 0))).2.2)))), (.d (.bool (decide (x1 < (List.getD x2 (Int.toNat s11) (([] : List ((List UInt8) × (List UInt8) × Int)), (0, 0))).2.2)))), (.d (.sl (.pair .str .str) x0)), (.ptr 0 0), (.d (.sl (.pair .str (.pair .str (.int .i64))) (List.getD x2 (Int.toNat s11) (([] : List ((List UInt8) × (List UInt8) × Int)), (0, 0))).1)), (.d (.bool (allG x0 (List.getD x2 (Int.toNat s11) (([] : List ((List UInt8) × (List UInt8) × Int)), (0, 0))).1))), (.d (.bool (allG x0 (List.getD x2 (Int.toNat s11) (([] : List ((List UInt8) × (List UInt8) × Int)), (0, 0))).1))), .top], [(.cells [(.d (.sl (.pair .str (.pair .str (.int .i64))) (List.getD x2 (Int.toNat s11) (([] : List ((List UInt8) × (List UInt8) × Int)), (0, 0))).1)), (.d (.int .i64 (List.getD x2 (Int.toNat s11) (([] : List ((List UInt8) × (List UInt8) × Int)), (0, 0))).2.1)), (.d (.int .i64 (List.getD x2 (Int.toNat s11) (([] : List ((List UInt8) × (List UInt8) × Int)), (0, 0))).2.2))])])
  | _ => (.exit 0, [(.d (.sl (.pair .str .str) x0)), (.d (.int .i64 x1)), .top, .top, .top, .top, .top, .top, .top, (.d (.sl (.pair (.sl (.pair .str (.pair .str (.int .i64)))) (.pair (.int .i64) (.int .i64))) x2)), (.d (.int .i64 s10)), (.d (.int .i64 s11)), (.d (.bool (decide (s11 < s10)))), .top, .top, .top, .top, .top, .top, .top, .top, .top, .top, .top, .top, .top, .top, .top, .top, .top, .top, .top], [])
noncomputable def lbl12_0 : AC := loopBody 3587 body12

set_option maxHeartbeats 20000000 in
theorem l12_0_w0 (m n : Nat) (x0 : List ((List UInt8) × (List UInt8))) (x1 : Int) (x2 : List ((List ((List UInt8) × (List UInt8) × Int)) × Int × Int)) (s10 : Int) (s11 : Int) (c0 : decide (s11 < s10) = true) (c1 : decide (0 ≤ s11) = true) (c2 : decide (s11 < (((List.length x2) : Nat) : Int)) = true) (c3 : decide ((List.getD x2 (Int.toNat s11) (([] : List ((List UInt8) × (List UInt8) × Int)), (0, 0))).2.1 ≤ x1) = true) (c8 : decide (x1 < (List.getD x2 (Int.toNat s11) (([] : List ((List UInt8) × (List UInt8) × Int)), (0, 0))).2.2) = true) (c12 : decide (List.length x0 ≤ 1000000 ∧ List.length (List.getD x2 (Int.toNat s11) (([] : List ((List UInt8) × (List UInt8) × Int)), (0, 0))).1 ≤ 9223372036854775807) = true) (c14 : (allG x0 (List.getD x2 (Int.toNat s11) (([] : List ((List UInt8) × (List UInt8) × Int)), (0, 0))).1) = true) : (turns (hds 12 3587) 0 3587 (evC byref (evCall F S9 (m + 24)) (m + 24) 0 (hds 12) lbl12_0) (n + 1) (l12_0H x0 x1 x2 s10 s11) (l12_0B x0 x1 x2 s10 s11)).run = some (let r1 := (allG x0 (List.getD x2 (Int.toNat s11) (([] : List ((List UInt8) × (List UInt8) × Int)), (0, 0))).1); (.ret, [(.d (.sl (.pair .str .str) x0)), (.d (.int .i64 x1)), .top, .top, .top, .top, (.d (.bool true)), .top, (.ptr 0 0), (.d (.sl (.pair (.sl (.pair .str (.pair .str (.int .i64)))) (.pair (.int .i64) (.int .i64))) x2)), (.d (.int .i64 s10)), (.d (.int .i64 s11)), (.d (.bool (decide (s11 < s10)))), (.cptr [(.sl (.pair .str (.pair .str (.int .i64))) (List.getD x2 (Int.toNat s11) (([] : List ((List UInt8) × (List UInt8) × Int)), (0, 0))).1), (.int .i64 (List.getD x2 (Int.toNat s11) (([] : List ((List UInt8) × (List UInt8) × Int)), (0, 0))).2.1), (.int .i64 (List.getD x2 (Int.toNat s11) (([] : List ((List UInt8) × (List UInt8) × Int)), (0, 0))).2.2)] 0), (.agg [(.d (.sl (.pair .str (.pair .str (.int .i64))) (List.getD x2 (Int.toNat s11) (([] : List ((List UInt8) × (List UInt8) × Int)), (0, 0))).1)), (.d (.int .i64 (List.getD x2 (Int.toNat s11) (([] : List ((List UInt8) × (List UInt8) × Int)), (0, 0))).2.1)), (.d (.int .i64 (List.getD x2 (Int.toNat s11) (([] : List ((List UInt8) × (List UInt8) × Int)), (0, 0))).2.2))]), (.ptr 0 1), (.d (.int .i64 (List.getD x2 (Int.toNat s11) (([] : List ((List UInt8) × (List UInt8) × Int)), (0, 0))).2.1)), (.d (.int .i64 x1)), (.d (.bool (decide ((List.getD x2 (Int.toNat s11) (([] : List ((List UInt8) × (List UInt8) × Int)), (0, 0))).2.1 ≤ x1)))), (.d (.bool (decide ((List.getD x2 (Int.toNat s11) (([] : List ((List UInt8) × (List UInt8) × Int)), (0, 0))).2.1 ≤ x1)))), (.d (.int .i64 x1)), (.ptr 0 2), (.d (.int .i64 (List.getD x2 (Int.toNat s11) (([] : List ((List UInt8) × (List UInt8) × Int)), (0, 0))).2.2)), (.d (.bool (decide (x1 < (List.getD x2 (Int.toNat s11) (([] : List ((List UInt8) × (List UInt8) × Int)), (0, 0))).2.2)))), (.d (.bool (decide (x1 < (List.getD x2 (Int.toNat s11) (([] : List ((List UInt8) × (List UInt8) × Int)), (0, 0))).2.2)))), (.d (.bool (decide (x1 < (List.getD x2 (Int.toNat s11) (([] : List ((List UInt8) × (List UInt8) × Int)), (0, 0))).2.2)))), (.d (.sl (.pair .str .str) x0)), (.ptr 0 0), (.d (.sl (.pair .str (.pair .str (.int .i64))) (List.getD x2 (Int.toNat s11) (([] : List ((List UInt8) × (List UInt8) × Int)), (0, 0))).1)), (.d (.bool r1)), (.d (.bool r1)), .top], [(.cells [(.d (.sl (.pair .str (.pair .str (.int .i64))) (List.getD x2 (Int.toNat s11) (([] : List ((List UInt8) × (List UInt8) × Int)), (0, 0))).1)), (.d (.int .i64 (List.getD x2 (Int.toNat s11) (([] : List ((List UInt8) × (List UInt8) × Int)), (0, 0))).2.1)), (.d (.int .i64 (List.getD x2 (Int.toNat s11) (([] : List ((List UInt8) × (List UInt8) × Int)), (0, 0))).2.2))])])) := by
  exact turns_last (by simp) (M.run_of_path _ [true, true, true, true, true, true, true, true, true, true, true, true, true, true, true] _ _ (by kernel_rfl) (all_t c0 (all_t c1 (all_t c2 (all_t c3 (all_t c3 (all_t c3 (all_t c3 (all_t c3 (all_t c8 (all_t c8 (all_t c8 (all_t c8 (all_t c12 (all_t c8 (all_t c14 all_nil)))))))))))))))) 
set_option maxHeartbeats 20000000 in
theorem l12_0_w1 (m n : Nat) (x0 : List ((List UInt8) × (List UInt8))) (x1 : Int) (x2 : List ((List ((List UInt8) × (List UInt8) × Int)) × Int × Int)) (s10 : Int) (s11 : Int) (r : AEx × Env × Boxes) (c0 : decide (s11 < s10) = true) (c1 : decide (0 ≤ s11) = true) (c2 : decide (s11 < (((List.length x2) : Nat) : Int)) = true) (c3 : decide ((List.getD x2 (Int.toNat s11) (([] : List ((List UInt8) × (List UInt8) × Int)), (0, 0))).2.1 ≤ x1) = true) (c8 : decide (x1 < (List.getD x2 (Int.toNat s11) (([] : List ((List UInt8) × (List UInt8) × Int)), (0, 0))).2.2) = true) (c12 : decide (List.length x0 ≤ 1000000 ∧ List.length (List.getD x2 (Int.toNat s11) (([] : List ((List UInt8) × (List UInt8) × Int)), (0, 0))).1 ≤ 9223372036854775807) = true) (c14 : ¬ (allG x0 (List.getD x2 (Int.toNat s11) (([] : List ((List UInt8) × (List UInt8) × Int)), (0, 0))).1) = true) (ih : (turns (hds 12 3587) 0 3587 (evC byref (evCall F S9 (m + 24)) (m + 24) 0 (hds 12) lbl12_0) n (l12_0H x0 x1 x2 s10 ((IntKind.wrap .i64 (s11 + (1))))) (l12_0B x0 x1 x2 s10 ((IntKind.wrap .i64 (s11 + (1)))))).run = some r) : (turns (hds 12 3587) 0 3587 (evC byref (evCall F S9 (m + 24)) (m + 24) 0 (hds 12) lbl12_0) (n + 1) (l12_0H x0 x1 x2 s10 s11) (l12_0B x0 x1 x2 s10 s11)).run = some r := by
  exact turns_step (M.run_of_path _ [true, true, true, true, true, true, true, true, true, true, true, true, true, true, false] _ _ (by kernel_rfl) (all_t c0 (all_t c1 (all_t c2 (all_t c3 (all_t c3 (all_t c3 (all_t c3 (all_t c3 (all_t c8 (all_t c8 (all_t c8 (all_t c8 (all_t c12 (all_t c8 (all_f c14 all_nil)))))))))))))))) ih
set_option maxHeartbeats 20000000 in
theorem l12_0_w2 (m n : Nat) (x0 : List ((List UInt8) × (List UInt8))) (x1 : Int) (x2 : List ((List ((List UInt8) × (List UInt8) × Int)) × Int × Int)) (s10 : Int) (s11 : Int) (r : AEx × Env × Boxes) (c0 : decide (s11 < s10) = true) (c1 : decide (0 ≤ s11) = true) (c2 : decide (s11 < (((List.length x2) : Nat) : Int)) = true) (c3 : decide ((List.getD x2 (Int.toNat s11) (([] : List ((List UInt8) × (List UInt8) × Int)), (0, 0))).2.1 ≤ x1) = true) (c8 : ¬ decide (x1 < (List.getD x2 (Int.toNat s11) (([] : List ((List UInt8) × (List UInt8) × Int)), (0, 0))).2.2) = true) (ih : (turns (hds 12 3587) 0 3587 (evC byref (evCall F S9 (m + 24)) (m + 24) 0 (hds 12) lbl12_0) n (l12_0H x0 x1 x2 s10 ((IntKind.wrap .i64 (s11 + (1))))) (l12_0B x0 x1 x2 s10 ((IntKind.wrap .i64 (s11 + (1)))))).run = some r) : (turns (hds 12 3587) 0 3587 (evC byref (evCall F S9 (m + 24)) (m + 24) 0 (hds 12) lbl12_0) (n + 1) (l12_0H x0 x1 x2 s10 s11) (l12_0B x0 x1 x2 s10 s11)).run = some r := by
  exact turns_step (M.run_of_path _ [true, true, true, true, true, true, true, true, false, false, false, false, false, false] _ _ (by kernel_rfl) (all_t c0 (all_t c1 (all_t c2 (all_t c3 (all_t c3 (all_t c3 (all_t c3 (all_t c3 (all_f c8 (all_f c8 (all_f c8 (all_f c8 (all_f c8 (all_f Bool.false_ne_true all_nil))))))))))))))) ih
set_option maxHeartbeats 20000000 in
theorem l12_0_w3 (m n : Nat) (x0 : List ((List UInt8) × (List UInt8))) (x1 : Int) (x2 : List ((List ((List UInt8) × (List UInt8) × Int)) × Int × Int)) (s10 : Int) (s11 : Int) (r : AEx × Env × Boxes) (c0 : decide (s11 < s10) = true) (c1 : decide (0 ≤ s11) = true) (c2 : decide (s11 < (((List.length x2) : Nat) : Int)) = true) (c3 : ¬ decide ((List.getD x2 (Int.toNat s11) (([] : List ((List UInt8) × (List UInt8) × Int)), (0, 0))).2.1 ≤ x1) = true) (ih : (turns (hds 12 3587) 0 3587 (evC byref (evCall F S9 (m + 24)) (m + 24) 0 (hds 12) lbl12_0) n (l12_0H x0 x1 x2 s10 ((IntKind.wrap .i64 (s11 + (1))))) (l12_0B x0 x1 x2 s10 ((IntKind.wrap .i64 (s11 + (1)))))).run = some r) : (turns (hds 12 3587) 0 3587 (evC byref (evCall F S9 (m + 24)) (m + 24) 0 (hds 12) lbl12_0) (n + 1) (l12_0H x0 x1 x2 s10 s11) (l12_0B x0 x1 x2 s10 s11)).run = some r := by
  exact turns_step (M.run_of_path _ [true, true, true, false, false, false, false, false, false, false, false, false, false, false] _ _ (by kernel_rfl) (all_t c0 (all_t c1 (all_t c2 (all_f c3 (all_f c3 (all_f c3 (all_f c3 (all_f c3 (all_f Bool.false_ne_true (all_f Bool.false_ne_true (all_f Bool.false_ne_true (all_f Bool.false_ne_true (all_f Bool.false_ne_true (all_f Bool.false_ne_true all_nil))))))))))))))) ih
set_option maxHeartbeats 20000000 in
theorem l12_0_w4 (m n : Nat) (x0 : List ((List UInt8) × (List UInt8))) (x1 : Int) (x2 : List ((List ((List UInt8) × (List UInt8) × Int)) × Int × Int)) (s10 : Int) (s11 : Int) (c0 : ¬ decide (s11 < s10) = true) : (turns (hds 12 3587) 0 3587 (evC byref (evCall F S9 (m + 24)) (m + 24) 0 (hds 12) lbl12_0) (n + 1) (l12_0H x0 x1 x2 s10 s11) (l12_0B x0 x1 x2 s10 s11)).run = some (.exit 0, [(.d (.sl (.pair .str .str) x0)), (.d (.int .i64 x1)), .top, .top, .top, .top, .top, .top, .top, (.d (.sl (.pair (.sl (.pair .str (.pair .str (.int .i64)))) (.pair (.int .i64) (.int .i64))) x2)), (.d (.int .i64 s10)), (.d (.int .i64 s11)), (.d (.bool (decide (s11 < s10)))), .top, .top, .top, .top, .top, .top, .top, .top, .top, .top, .top, .top, .top, .top, .top, .top, .top, .top, .top], []) := by
  exact turns_last (by simp) (M.run_of_path _ [false] _ _ (by kernel_rfl) (all_f c0 all_nil)) 

set_option maxHeartbeats 20000000 in
theorem l12_0_step (m n : Nat) (ih : ∀ (x0 : List ((List UInt8) × (List UInt8))) (x1 : Int) (x2 : List ((List ((List UInt8) × (List UInt8) × Int)) × Int × Int)) (s10 : Int) (s11 : Int) (q : Nat × Int), l12_0 m n x0 x1 x2 s10 s11 = some q → (turns (hds 12 3587) 0 3587 (evC byref (evCall F S9 (m + 24)) (m + 24) 0 (hds 12) lbl12_0) n (l12_0H x0 x1 x2 s10 s11) (l12_0B x0 x1 x2 s10 s11)).run = some (l12_0E (x0) (x1) (x2) (s10) (q.2) q.1)) (x0 : List ((List UInt8) × (List UInt8))) (x1 : Int) (x2 : List ((List ((List UInt8) × (List UInt8) × Int)) × Int × Int)) (s10 : Int) (s11 : Int) (q : Nat × Int) (h : l12_0 m (n + 1) x0 x1 x2 s10 s11 = some q) : (turns (hds 12 3587) 0 3587 (evC byref (evCall F S9 (m + 24)) (m + 24) 0 (hds 12) lbl12_0) (n + 1) (l12_0H x0 x1 x2 s10 s11) (l12_0B x0 x1 x2 s10 s11)).run = some (l12_0E (x0) (x1) (x2) (s10) (q.2) q.1) := by
  rw [l12_0] at h
  refine ite_cases h (fun c0 h => ?_) (fun c0 h => ?_)
  · skip
    refine ite_cases h (fun c1 h => ?_) (fun c1 h => ?_)
    · skip
      refine ite_cases h (fun c2 h => ?_) (fun c2 h => ?_)
      · skip
        refine ite_cases h (fun c3 h => ?_) (fun c3 h => ?_)
        · skip
          refine ite_cases h (fun c8 h => ?_) (fun c8 h => ?_)
          · skip
            refine ite_cases h (fun c12 h => ?_) (fun c12 h => ?_)
            · skip
              refine ite_cases h (fun c14 h => ?_) (fun c14 h => ?_)
              · skip
                cases h
                exact l12_0_w0 m n x0 x1 x2 s10 s11 c0 c1 c2 c3 c8 c12 c14
              · skip
                exact l12_0_w1 m n x0 x1 x2 s10 s11 _ c0 c1 c2 c3 c8 c12 c14 (ih _ _ _ _ _ q h)
            · skip
              cases h
          · skip
            exact l12_0_w2 m n x0 x1 x2 s10 s11 _ c0 c1 c2 c3 c8 (ih _ _ _ _ _ q h)
        · skip
          exact l12_0_w3 m n x0 x1 x2 s10 s11 _ c0 c1 c2 c3 (ih _ _ _ _ _ q h)
      · skip
        cases h
    · skip
      cases h
  · skip
    cases h
    exact l12_0_w4 m n x0 x1 x2 s10 s11 c0
set_option maxHeartbeats 20000000 in
theorem l12_0_ok (m : Nat) : ∀ (n : Nat) (x0 : List ((List UInt8) × (List UInt8))) (x1 : Int) (x2 : List ((List ((List UInt8) × (List UInt8) × Int)) × Int × Int)) (s10 : Int) (s11 : Int) (q : Nat × Int), l12_0 m n x0 x1 x2 s10 s11 = some q → (turns (hds 12 3587) 0 3587 (evC byref (evCall F S9 (m + 24)) (m + 24) 0 (hds 12) lbl12_0) n (l12_0H x0 x1 x2 s10 s11) (l12_0B x0 x1 x2 s10 s11)).run = some (l12_0E (x0) (x1) (x2) (s10) (q.2) q.1)
  | 0, x0, x1, x2, s10, s11, q, h => by cases h
  | n + 1, x0, x1, x2, s10, s11, q, h => l12_0_step m n (l12_0_ok m n) x0 x1 x2 s10 s11 q h

def p12 (m : Nat) (x0 : List ((List UInt8) × (List UInt8))) (x1 : Int) (x2 : List ((List ((List UInt8) × (List UInt8) × Int)) × Int × Int)) : Option (Bool) :=
  if (Option.isSome (l12_0 m (m + 24) x0 x1 x2 ((((List.length x2) : Nat) : Int)) 0)) = true then
    if ((l12_0R m (m + 24) x0 x1 x2 ((((List.length x2) : Nat) : Int)) 0).1 == 0) = true then
      some (true)
    else
      if ((l12_0R m (m + 24) x0 x1 x2 ((((List.length x2) : Nat) : Int)) 0).1 == 1) = true then
        some (false)
      else
        none
  else
    none
set_option maxHeartbeats 20000000 in
theorem p12_ok (m : Nat) (x0 : List ((List UInt8) × (List UInt8))) (x1 : Int) (x2 : List ((List ((List UInt8) × (List UInt8) × Int)) × Int × Int)) (q : Bool) (h : p12 m x0 x1 x2 = some q) : ∃ r B1, (evCall F S9 (m + 25) 12 [(.d (.sl (.pair .str .str) x0)), (.d (.int .i64 x1)), (.d (.sl (.pair (.sl (.pair .str (.pair .str (.int .i64)))) (.pair (.int .i64) (.int .i64))) x2))] []).run = some (r, B1) ∧ 0 ≤ B1.length ∧ wkR B1 [] r (.d (.bool (q))) ∧ wkBs B1 [] 0 [] := by
  unfold p12 at h
  refine ite_cases h (fun c0 h => ?_) (fun c0 h => ?_)
  · skip
    refine ite_cases h (fun c1 h => ?_) (fun c1 h => ?_)
    · skip
      cases h
      refine ⟨(.d (.bool true)), [], runT_ok (LS := (fun k => if k = 3587 then some (l12_0E x0 x1 x2 (((((List.length x2) : Nat) : Int))) ((l12_0R m (m + 24) x0 x1 x2 ((((List.length x2) : Nat) : Int)) 0).2) 0) else none)) (fn := fn12) (vis := [(3587, l12_0H x0 x1 x2 ((((List.length x2) : Nat) : Int)) 0, l12_0B x0 x1 x2 ((((List.length x2) : Nat) : Int)) 0)]) (by kernel_rfl) rfl (by kernel_rfl) (M.run_of_path _ [] _ _ (by kernel_rfl) all_nil) ?_, by simp, (wkR.one (wkV.one (wk1.eq rfl))), trivial⟩
      intro p hp p2 hq
      rcases List.mem_cons.1 hp with rfl | hp
      · skip
        have h3 := l12_0_ok m (m + 24) x0 x1 x2 ((((List.length x2) : Nat) : Int)) 0 _ (some_getD (d := l12_0D) c0)
        rw [eq_of_beq c1] at h3
        exact Eq.trans (Eq.mp (by kernel_rfl) h3) hq
      cases hp
    · skip
      refine ite_cases h (fun c2 h => ?_) (fun c2 h => ?_)
      · skip
        cases h
        refine ⟨(.d (.bool false)), [], runT_ok (LS := (fun k => if k = 3587 then some (l12_0E x0 x1 x2 (((((List.length x2) : Nat) : Int))) ((l12_0R m (m + 24) x0 x1 x2 ((((List.length x2) : Nat) : Int)) 0).2) 1) else none)) (fn := fn12) (vis := [(3587, l12_0H x0 x1 x2 ((((List.length x2) : Nat) : Int)) 0, l12_0B x0 x1 x2 ((((List.length x2) : Nat) : Int)) 0)]) (by kernel_rfl) rfl (by kernel_rfl) (M.run_of_path _ [] _ _ (by kernel_rfl) all_nil) ?_, by simp, (wkR.one (wkV.one (wk1.eq rfl))), trivial⟩
        intro p hp p2 hq
        rcases List.mem_cons.1 hp with rfl | hp
        · skip
          have h3 := l12_0_ok m (m + 24) x0 x1 x2 ((((List.length x2) : Nat) : Int)) 0 _ (some_getD (d := l12_0D) c0)
          rw [eq_of_beq c2] at h3
          exact Eq.trans (Eq.mp (by kernel_rfl) h3) hq
        cases hp
      · skip
        cases h
  · skip
    cases h

abbrev SS := List ((List MT) × Int × Int)
abbrev HS := List ((List MT) × (List MT) × (List (List UInt8)))
def silOne (l : LB) (t : Int) (s : (List MT) × Int × Int) : Bool := decide (s.2.1 ≤ t) && (decide (t < s.2.2) && allG l s.1)
def silG (l : LB) (t : Int) (ss : SS) : Bool := ss.any (silOne l t)
def silPre (l : LB) (ss : SS) : Bool := decide (l.length ≤ 1000000 ∧ ss.length ≤ 1000000 ∧ ∀ s ∈ ss, s.1.length ≤ 9223372036854775807)
theorem sil_loop (m : Nat) (l : LB) (t : Int) (ss : SS) (h1 : l.length ≤ 1000000) (h2 : ss.length ≤ 1000000) (h3 : ∀ s ∈ ss, s.1.length ≤ 9223372036854775807) : ∀ (n k : Nat), k ≤ ss.length → ss.length - k < n → ∃ e j, l12_0 m n l t ss (ss.length : Nat) (k : Nat) = some (e, j) ∧ ((e = 0 ∧ silG l t (ss.drop k) = true) ∨ (e = 1 ∧ silG l t (ss.drop k) = false))
  | 0, k, _, h => by omega
  | n + 1, k, g1, g2 => by
    rw [l12_0]
    by_cases hk : k < ss.length
    · have e1 : decide (((k : Nat) : Int) < (((List.length ss) : Nat) : Int)) = true := decide_eq_true (by omega)
      have e2 : decide ((0 : Int) ≤ ((k : Nat) : Int)) = true := decide_eq_true (by omega)
      have e7 : IntKind.wrap .i64 (((k : Nat) : Int) + (1)) = ((k + 1 : Nat) : Int) := by rw [wrap_id (by omega) (by omega)]; rfl
      have hq := h3 _ (getD_mem ss k (([] : List MT), (0, 0)) hk)
      have go := sil_loop m l t ss h1 h2 h3 n (k + 1) (by omega) (by omega)
      rw [drop_getD ss k (([] : List MT), (0, 0)) hk]
      simp only [show Int.toNat ((k : Nat) : Int) = k from rfl, e1, e2, e7, ↓reduceIte]
      generalize ss.getD k (([] : List MT), (0, 0)) = q at *
      have hc : silG l t (q :: ss.drop (k + 1)) = (silOne l t q || silG l t (ss.drop (k + 1))) := rfl
      have hs : silOne l t q = (decide (q.2.1 ≤ t) && (decide (t < q.2.2) && allG l q.1)) := rfl
      have e3 : decide (List.length l ≤ 1000000 ∧ List.length q.1 ≤ 9223372036854775807) = true := decide_eq_true ⟨h1, hq⟩
      rw [hc, hs]
      simp only [e3, ↓reduceIte]
      cases c1 : decide (q.2.1 ≤ t) with
      | false => simp only [Bool.false_and, Bool.false_or, ↓reduceIte, Bool.false_eq_true]; exact go
      | true =>
        cases c2 : decide (t < q.2.2) with
        | false => simp only [Bool.false_and, Bool.and_false, Bool.false_or, ↓reduceIte, Bool.false_eq_true]; exact go
        | true =>
          cases c3 : allG l q.1 with
          | false => simp only [Bool.and_false, Bool.false_or, ↓reduceIte, Bool.false_eq_true]; exact go
          | true =>
            simp only [Bool.and_self, Bool.true_or, ↓reduceIte]
            exact ⟨0, _, rfl, .inl ⟨rfl, by first | rfl | trivial⟩⟩
    · have e1 : decide (((k : Nat) : Int) < (((List.length ss) : Nat) : Int)) = false := decide_eq_false (by omega)
      rw [e1, if_neg (by simp), List.drop_eq_nil_of_le (by omega)]
      exact ⟨1, _, rfl, .inr ⟨rfl, by first | rfl | trivial⟩⟩
theorem sil12 (l : LB) (t : Int) (ss : SS) (h : silPre l ss = true) : ∃ m, p12 m l t ss = some (silG l t ss) := by
  have ⟨h1, h2, h3⟩ := of_decide_eq_true h
  refine ⟨ss.length, ?_⟩
  obtain ⟨e, j, hr, hc⟩ := sil_loop ss.length l t ss h1 h2 h3 (ss.length + 24) 0 (by omega) (by omega)
  simp only [Int.natCast_zero, List.drop_zero] at hr hc
  unfold p12
  simp only [l12_0R, hr, Option.isSome_some, Option.getD_some, ↓reduceIte]
  rcases hc with ⟨rfl, hc⟩ | ⟨rfl, hc⟩ <;> rw [hc] <;> rfl
def s12 : List AV → Boxes → M (AV × Boxes) := normS [.val (.sl (.pair .str .str)), .val (.int .i64), .val (.sl (.pair (.sl (.pair .str (.pair .str (.int .i64)))) (.pair (.int .i64) (.int .i64))))] [] fun xs B => match xs, B with
  | [(.d (.sl (.pair .str .str) c1)), (.d (.int .i64 c2)), (.d (.sl (.pair (.sl (.pair .str (.pair .str (.int .i64)))) (.pair (.int .i64) (.int .i64))) c3))], [] => .chk (silPre c1 c3) (.ret ((.d (.bool (silG c1 c2 c3))), []))
  | _, _ => .fail
theorem s12_at : CallAt Tryd.prog 12 s12 := by
  refine CallAt.norm (CallAt.weakE (g := fun n => evCall F S9 n 12) (fun n => evCall_atH mixed kinds hds S9 S9_ok n 12) fun xs B r' B' hr => ?_) _ _
  split at hr
  · rename_i c1 c2 c3
    obtain ⟨hp, hr⟩ := (M.run_chk _ _ _).1 hr
    simp only [M.run, Option.some.injEq, Prod.mk.injEq] at hr
    obtain ⟨rfl, rfl⟩ := hr
    obtain ⟨m, hm⟩ := sil12 c1 c2 c3 hp
    obtain ⟨r, B1, h1, h2, h3, h4⟩ := p12_ok m c1 c2 c3 _ hm
    exact ⟨m + 25, r, B1, h1, by simp, h2, h3, h4⟩
  · simp [M.run] at hr
noncomputable def S10 : FuncId → Option (List AV → Boxes → M (AV × Boxes)) := fun f => if f = 12 then some s12 else S9 f
set_option maxHeartbeats 20000000 in
theorem S10_ok : ∀ f s, S10 f = some s → CallAt Tryd.prog f s := by
  intro f s h
  unfold S10 at h
  split at h
  · rename_i e; subst e; cases h; exact s12_at
  · exact S9_ok f s h

noncomputable def fn32 : AFn := (F 32).getD ⟨0, [], .bad, false, false, noHd⟩
noncomputable def body32 : AC := fn32.body
def l32_0 (m : Nat) : Nat → List ((List UInt8) × (List UInt8)) → List ((List UInt8) × (List UInt8)) → List (List UInt8) → Int → Int → Option (Nat × Int)
  | 0, _, _, _, _, _ => none
  | n + 1, x0, x1, x2, s10, s11 => if decide (s11 < s10) = true then
      if decide (0 ≤ s11) = true then
        if decide (s11 < (((List.length x2) : Nat) : Int)) = true then
          if decide (List.length x0 ≤ 1000000) = true then
            if decide (List.length x1 ≤ 1000000) = true then
              if ((getG x0 (List.getD x2 (Int.toNat s11) ([] : List UInt8))) == (getG x1 (List.getD x2 (Int.toNat s11) ([] : List UInt8)))) = true then
                l32_0 m n x0 x1 x2 s10 ((IntKind.wrap .i64 (s11 + (1))))
              else
                some (0, s11)
            else
              none
          else
            none
        else
          none
      else
        none
    else
      some (1, s11)
def l32_0D : Nat × Int := (0, 0)
@[reducible] def l32_0R (m n : Nat) (x0 : List ((List UInt8) × (List UInt8))) (x1 : List ((List UInt8) × (List UInt8))) (x2 : List (List UInt8)) (s10 : Int) (s11 : Int) : Nat × Int := Option.getD (l32_0 m n x0 x1 x2 s10 s11) l32_0D
def l32_0H (x0 : List ((List UInt8) × (List UInt8))) (x1 : List ((List UInt8) × (List UInt8))) (x2 : List (List UInt8)) (s10 : Int) (s11 : Int) : Env := [(.d (.sl (.pair .str .str) x0)), (.d (.sl (.pair .str .str) x1)), .top, .top, .top, .top, .top, .top, .top, (.d (.sl .str x2)), (.d (.int .i64 s10)), (.d (.int .i64 s11)), .top, .top, .top, .top, .top, .top, .top, .top, .top, .top, .top]
def l32_0B (x0 : List ((List UInt8) × (List UInt8))) (x1 : List ((List UInt8) × (List UInt8))) (x2 : List (List UInt8)) (s10 : Int) (s11 : Int) : Boxes := []
def l32_0E (x0 : List ((List UInt8) × (List UInt8))) (x1 : List ((List UInt8) × (List UInt8))) (x2 : List (List UInt8)) (s10 : Int) (s11 : Int) : Nat → AEx × Env × Boxes
  | 0 => (.ret, [(.d (.sl (.pair .str .str) x0)), (.d (.sl (.pair .str .str) x1)), .top, .top, .top, .top, (.d (.bool false)), .top, (.d (.str (List.getD x2 (Int.toNat s11) ([] : List UInt8)))), (.d (.sl .str x2)), (.d (.int .i64 s10)), (.d (.int .i64 s11)), (.d (.bool (decide (s11 < s10)))), (.cptr [(.str (List.getD x2 (Int.toNat s11) ([] : List UInt8)))] 0), (.d (.str (List.getD x2 (Int.toNat s11) ([] : List UInt8)))), (.d (.sl (.pair .str .str) x0)), (.d (.str (List.getD x2 (Int.toNat s11) ([] : List UInt8)))), (.d (.str (getG x0 (List.getD x2 (Int.toNat s11) ([] : List UInt8))))), (.d (.sl (.pair .str .str) x1)), (.d (.str (List.getD x2 (Int.toNat s11) ([] : List UInt8)))), (.d (.str (getG x1 (List.getD x2 (Int.toNat s11) ([] : List UInt8))))), (.d (.bool (!((getG x0 (List.getD x2 (Int.toNat s11) ([] : List UInt8))) == (getG x1 (List.getD x2 (Int.toNat s11) ([] : List UInt8))))))), .top], [])
  | _ => (.exit 0, [(.d (.sl (.pair .str .str) x0)), (.d (.sl (.pair .str .str) x1)), .top, .top, .top, .top, .top, .top, .top, (.d (.sl .str x2)), (.d (.int .i64 s10)), (.d (.int .i64 s11)), (.d (.bool (decide (s11 < s10)))), .top, .top, .top, .top, .top, .top, .top, .top, .top, .top], [])
noncomputable def lbl32_0 : AC := loopBody 3587 body32

set_option maxHeartbeats 20000000 in
theorem l32_0_w0 (m n : Nat) (x0 : List ((List UInt8) × (List UInt8))) (x1 : List ((List UInt8) × (List UInt8))) (x2 : List (List UInt8)) (s10 : Int) (s11 : Int) (r : AEx × Env × Boxes) (c0 : decide (s11 < s10) = true) (c1 : decide (0 ≤ s11) = true) (c2 : decide (s11 < (((List.length x2) : Nat) : Int)) = true) (c3 : decide (List.length x0 ≤ 1000000) = true) (c4 : decide (List.length x1 ≤ 1000000) = true) (c5 : ((getG x0 (List.getD x2 (Int.toNat s11) ([] : List UInt8))) == (getG x1 (List.getD x2 (Int.toNat s11) ([] : List UInt8)))) = true) (ih : (turns (hds 32 3587) 0 3587 (evC byref (evCall F S10 (m + 24)) (m + 24) 0 (hds 32) lbl32_0) n (l32_0H x0 x1 x2 s10 ((IntKind.wrap .i64 (s11 + (1))))) (l32_0B x0 x1 x2 s10 ((IntKind.wrap .i64 (s11 + (1)))))).run = some r) : (turns (hds 32 3587) 0 3587 (evC byref (evCall F S10 (m + 24)) (m + 24) 0 (hds 32) lbl32_0) (n + 1) (l32_0H x0 x1 x2 s10 s11) (l32_0B x0 x1 x2 s10 s11)).run = some r := by
  exact turns_step (M.run_of_path _ [true, true, true, true, true, false] _ _ (by kernel_rfl) (all_t c0 (all_t c1 (all_t c2 (all_t c3 (all_t c4 (all_nt c5 all_nil))))))) ih
set_option maxHeartbeats 20000000 in
theorem l32_0_w1 (m n : Nat) (x0 : List ((List UInt8) × (List UInt8))) (x1 : List ((List UInt8) × (List UInt8))) (x2 : List (List UInt8)) (s10 : Int) (s11 : Int) (c0 : decide (s11 < s10) = true) (c1 : decide (0 ≤ s11) = true) (c2 : decide (s11 < (((List.length x2) : Nat) : Int)) = true) (c3 : decide (List.length x0 ≤ 1000000) = true) (c4 : decide (List.length x1 ≤ 1000000) = true) (c5 : ¬ ((getG x0 (List.getD x2 (Int.toNat s11) ([] : List UInt8))) == (getG x1 (List.getD x2 (Int.toNat s11) ([] : List UInt8)))) = true) : (turns (hds 32 3587) 0 3587 (evC byref (evCall F S10 (m + 24)) (m + 24) 0 (hds 32) lbl32_0) (n + 1) (l32_0H x0 x1 x2 s10 s11) (l32_0B x0 x1 x2 s10 s11)).run = some (.ret, [(.d (.sl (.pair .str .str) x0)), (.d (.sl (.pair .str .str) x1)), .top, .top, .top, .top, (.d (.bool false)), .top, (.d (.str (List.getD x2 (Int.toNat s11) ([] : List UInt8)))), (.d (.sl .str x2)), (.d (.int .i64 s10)), (.d (.int .i64 s11)), (.d (.bool (decide (s11 < s10)))), (.cptr [(.str (List.getD x2 (Int.toNat s11) ([] : List UInt8)))] 0), (.d (.str (List.getD x2 (Int.toNat s11) ([] : List UInt8)))), (.d (.sl (.pair .str .str) x0)), (.d (.str (List.getD x2 (Int.toNat s11) ([] : List UInt8)))), (.d (.str (getG x0 (List.getD x2 (Int.toNat s11) ([] : List UInt8))))), (.d (.sl (.pair .str .str) x1)), (.d (.str (List.getD x2 (Int.toNat s11) ([] : List UInt8)))), (.d (.str (getG x1 (List.getD x2 (Int.toNat s11) ([] : List UInt8))))), (.d (.bool (!((getG x0 (List.getD x2 (Int.toNat s11) ([] : List UInt8))) == (getG x1 (List.getD x2 (Int.toNat s11) ([] : List UInt8))))))), .top], []) := by
  exact turns_last (by simp) (M.run_of_path _ [true, true, true, true, true, true] _ _ (by kernel_rfl) (all_t c0 (all_t c1 (all_t c2 (all_t c3 (all_t c4 (all_nf c5 all_nil))))))) 
set_option maxHeartbeats 20000000 in
theorem l32_0_w2 (m n : Nat) (x0 : List ((List UInt8) × (List UInt8))) (x1 : List ((List UInt8) × (List UInt8))) (x2 : List (List UInt8)) (s10 : Int) (s11 : Int) (c0 : ¬ decide (s11 < s10) = true) : (turns (hds 32 3587) 0 3587 (evC byref (evCall F S10 (m + 24)) (m + 24) 0 (hds 32) lbl32_0) (n + 1) (l32_0H x0 x1 x2 s10 s11) (l32_0B x0 x1 x2 s10 s11)).run = some (.exit 0, [(.d (.sl (.pair .str .str) x0)), (.d (.sl (.pair .str .str) x1)), .top, .top, .top, .top, .top, .top, .top, (.d (.sl .str x2)), (.d (.int .i64 s10)), (.d (.int .i64 s11)), (.d (.bool (decide (s11 < s10)))), .top, .top, .top, .top, .top, .top, .top, .top, .top, .top], []) := by
  exact turns_last (by simp) (M.run_of_path _ [false] _ _ (by kernel_rfl) (all_f c0 all_nil)) 

set_option maxHeartbeats 20000000 in
theorem l32_0_step (m n : Nat) (ih : ∀ (x0 : List ((List UInt8) × (List UInt8))) (x1 : List ((List UInt8) × (List UInt8))) (x2 : List (List UInt8)) (s10 : Int) (s11 : Int) (q : Nat × Int), l32_0 m n x0 x1 x2 s10 s11 = some q → (turns (hds 32 3587) 0 3587 (evC byref (evCall F S10 (m + 24)) (m + 24) 0 (hds 32) lbl32_0) n (l32_0H x0 x1 x2 s10 s11) (l32_0B x0 x1 x2 s10 s11)).run = some (l32_0E (x0) (x1) (x2) (s10) (q.2) q.1)) (x0 : List ((List UInt8) × (List UInt8))) (x1 : List ((List UInt8) × (List UInt8))) (x2 : List (List UInt8)) (s10 : Int) (s11 : Int) (q : Nat × Int) (h : l32_0 m (n + 1) x0 x1 x2 s10 s11 = some q) : (turns (hds 32 3587) 0 3587 (evC byref (evCall F S10 (m + 24)) (m + 24) 0 (hds 32) lbl32_0) (n + 1) (l32_0H x0 x1 x2 s10 s11) (l32_0B x0 x1 x2 s10 s11)).run = some (l32_0E (x0) (x1) (x2) (s10) (q.2) q.1) := by
  rw [l32_0] at h
  refine ite_cases h (fun c0 h => ?_) (fun c0 h => ?_)
  · skip
    refine ite_cases h (fun c1 h => ?_) (fun c1 h => ?_)
    · skip
      refine ite_cases h (fun c2 h => ?_) (fun c2 h => ?_)
      · skip
        refine ite_cases h (fun c3 h => ?_) (fun c3 h => ?_)
        · skip
          refine ite_cases h (fun c4 h => ?_) (fun c4 h => ?_)
          · skip
            refine ite_cases h (fun c5 h => ?_) (fun c5 h => ?_)
            · skip
              exact l32_0_w0 m n x0 x1 x2 s10 s11 _ c0 c1 c2 c3 c4 c5 (ih _ _ _ _ _ q h)
            · skip
              cases h
              exact l32_0_w1 m n x0 x1 x2 s10 s11 c0 c1 c2 c3 c4 c5
          · skip
            cases h
        · skip
          cases h
      · skip
        cases h
    · skip
      cases h
  · skip
    cases h
    exact l32_0_w2 m n x0 x1 x2 s10 s11 c0
set_option maxHeartbeats 20000000 in
theorem l32_0_ok (m : Nat) : ∀ (n : Nat) (x0 : List ((List UInt8) × (List UInt8))) (x1 : List ((List UInt8) × (List UInt8))) (x2 : List (List UInt8)) (s10 : Int) (s11 : Int) (q : Nat × Int), l32_0 m n x0 x1 x2 s10 s11 = some q → (turns (hds 32 3587) 0 3587 (evC byref (evCall F S10 (m + 24)) (m + 24) 0 (hds 32) lbl32_0) n (l32_0H x0 x1 x2 s10 s11) (l32_0B x0 x1 x2 s10 s11)).run = some (l32_0E (x0) (x1) (x2) (s10) (q.2) q.1)
  | 0, x0, x1, x2, s10, s11, q, h => by cases h
  | n + 1, x0, x1, x2, s10, s11, q, h => l32_0_step m n (l32_0_ok m n) x0 x1 x2 s10 s11 q h

def p32 (m : Nat) (x0 : List ((List UInt8) × (List UInt8))) (x1 : List ((List UInt8) × (List UInt8))) (x2 : List (List UInt8)) : Option (Bool) :=
  if (Option.isSome (l32_0 m (m + 24) x0 x1 x2 ((((List.length x2) : Nat) : Int)) 0)) = true then
    if ((l32_0R m (m + 24) x0 x1 x2 ((((List.length x2) : Nat) : Int)) 0).1 == 0) = true then
      some (false)
    else
      if ((l32_0R m (m + 24) x0 x1 x2 ((((List.length x2) : Nat) : Int)) 0).1 == 1) = true then
        some (true)
      else
        none
  else
    none
set_option maxHeartbeats 20000000 in
theorem p32_ok (m : Nat) (x0 : List ((List UInt8) × (List UInt8))) (x1 : List ((List UInt8) × (List UInt8))) (x2 : List (List UInt8)) (q : Bool) (h : p32 m x0 x1 x2 = some q) : ∃ r B1, (evCall F S10 (m + 25) 32 [(.d (.sl (.pair .str .str) x0)), (.d (.sl (.pair .str .str) x1)), (.d (.sl .str x2))] []).run = some (r, B1) ∧ 0 ≤ B1.length ∧ wkR B1 [] r (.d (.bool (q))) ∧ wkBs B1 [] 0 [] := by
  unfold p32 at h
  refine ite_cases h (fun c0 h => ?_) (fun c0 h => ?_)
  · skip
    refine ite_cases h (fun c1 h => ?_) (fun c1 h => ?_)
    · skip
      cases h
      refine ⟨(.d (.bool false)), [], runT_ok (LS := (fun k => if k = 3587 then some (l32_0E x0 x1 x2 (((((List.length x2) : Nat) : Int))) ((l32_0R m (m + 24) x0 x1 x2 ((((List.length x2) : Nat) : Int)) 0).2) 0) else none)) (fn := fn32) (vis := [(3587, l32_0H x0 x1 x2 ((((List.length x2) : Nat) : Int)) 0, l32_0B x0 x1 x2 ((((List.length x2) : Nat) : Int)) 0)]) (by kernel_rfl) rfl (by kernel_rfl) (M.run_of_path _ [] _ _ (by kernel_rfl) all_nil) ?_, by simp, (wkR.one (wkV.one (wk1.eq rfl))), trivial⟩
      intro p hp p2 hq
      rcases List.mem_cons.1 hp with rfl | hp
      · skip
        have h3 := l32_0_ok m (m + 24) x0 x1 x2 ((((List.length x2) : Nat) : Int)) 0 _ (some_getD (d := l32_0D) c0)
        rw [eq_of_beq c1] at h3
        exact Eq.trans (Eq.mp (by kernel_rfl) h3) hq
      cases hp
    · skip
      refine ite_cases h (fun c2 h => ?_) (fun c2 h => ?_)
      · skip
        cases h
        refine ⟨(.d (.bool true)), [], runT_ok (LS := (fun k => if k = 3587 then some (l32_0E x0 x1 x2 (((((List.length x2) : Nat) : Int))) ((l32_0R m (m + 24) x0 x1 x2 ((((List.length x2) : Nat) : Int)) 0).2) 1) else none)) (fn := fn32) (vis := [(3587, l32_0H x0 x1 x2 ((((List.length x2) : Nat) : Int)) 0, l32_0B x0 x1 x2 ((((List.length x2) : Nat) : Int)) 0)]) (by kernel_rfl) rfl (by kernel_rfl) (M.run_of_path _ [] _ _ (by kernel_rfl) all_nil) ?_, by simp, (wkR.one (wkV.one (wk1.eq rfl))), trivial⟩
        intro p hp p2 hq
        rcases List.mem_cons.1 hp with rfl | hp
        · skip
          have h3 := l32_0_ok m (m + 24) x0 x1 x2 ((((List.length x2) : Nat) : Int)) 0 _ (some_getD (d := l32_0D) c0)
          rw [eq_of_beq c2] at h3
          exact Eq.trans (Eq.mp (by kernel_rfl) h3) hq
        cases hp
      · skip
        cases h
  · skip
    cases h

def equG (a b : LB) (ns : List (List UInt8)) : Bool := ns.all fun n => getG a n == getG b n
def equPre (a b : LB) (ns : List (List UInt8)) : Bool := decide (a.length ≤ 1000000 ∧ b.length ≤ 1000000 ∧ ns.length ≤ 9223372036854775807)
theorem equ_loop (m : Nat) (a b : LB) (ns : List (List UInt8)) (h1 : a.length ≤ 1000000) (h2 : b.length ≤ 1000000) (h3 : ns.length ≤ 9223372036854775807) : ∀ (n k : Nat), k ≤ ns.length → ns.length - k < n → ∃ e j, l32_0 m n a b ns (ns.length : Nat) (k : Nat) = some (e, j) ∧ ((e = 1 ∧ equG a b (ns.drop k) = true) ∨ (e = 0 ∧ equG a b (ns.drop k) = false))
  | 0, k, _, h => by omega
  | n + 1, k, g1, g2 => by
    rw [l32_0]
    by_cases hk : k < ns.length
    · have e1 : decide (((k : Nat) : Int) < (((List.length ns) : Nat) : Int)) = true := decide_eq_true (by omega)
      have e2 : decide ((0 : Int) ≤ ((k : Nat) : Int)) = true := decide_eq_true (by omega)
      have e7 : IntKind.wrap .i64 (((k : Nat) : Int) + (1)) = ((k + 1 : Nat) : Int) := by rw [wrap_id (by omega) (by omega)]; rfl
      have e3 : decide (List.length a ≤ 1000000) = true := decide_eq_true h1
      have e4 : decide (List.length b ≤ 1000000) = true := decide_eq_true h2
      have go := equ_loop m a b ns h1 h2 h3 n (k + 1) (by omega) (by omega)
      rw [drop_getD ns k ([] : List UInt8) hk]
      simp only [show Int.toNat ((k : Nat) : Int) = k from rfl, e1, e2, e3, e4, e7, ↓reduceIte]
      generalize ns.getD k ([] : List UInt8) = q at *
      have hc : equG a b (q :: ns.drop (k + 1)) = ((getG a q == getG b q) && equG a b (ns.drop (k + 1))) := rfl
      rw [hc]
      cases c1 : (getG a q == getG b q) with
      | true => simp only [Bool.true_and, ↓reduceIte]; exact go
      | false =>
        simp only [Bool.false_and, ↓reduceIte, Bool.false_eq_true]
        exact ⟨0, _, rfl, .inr ⟨rfl, by first | rfl | trivial⟩⟩
    · have e1 : decide (((k : Nat) : Int) < (((List.length ns) : Nat) : Int)) = false := decide_eq_false (by omega)
      rw [e1, if_neg (by simp), List.drop_eq_nil_of_le (by omega)]
      exact ⟨1, _, rfl, .inl ⟨rfl, by first | rfl | trivial⟩⟩
theorem equ32 (a b : LB) (ns : List (List UInt8)) (h : equPre a b ns = true) : ∃ m, p32 m a b ns = some (equG a b ns) := by
  have ⟨h1, h2, h3⟩ := of_decide_eq_true h
  refine ⟨ns.length, ?_⟩
  obtain ⟨e, j, hr, hc⟩ := equ_loop ns.length a b ns h1 h2 h3 (ns.length + 24) 0 (by omega) (by omega)
  simp only [Int.natCast_zero, List.drop_zero] at hr hc
  unfold p32
  simp only [l32_0R, hr, Option.isSome_some, Option.getD_some, ↓reduceIte]
  rcases hc with ⟨rfl, hc⟩ | ⟨rfl, hc⟩ <;> rw [hc] <;> rfl
def s32 : List AV → Boxes → M (AV × Boxes) := normS [.val (.sl (.pair .str .str)), .val (.sl (.pair .str .str)), .val (.sl .str)] [] fun xs B => match xs, B with
  | [(.d (.sl (.pair .str .str) c1)), (.d (.sl (.pair .str .str) c2)), (.d (.sl .str c3))], [] => .chk (equPre c1 c2 c3) (.ret ((.d (.bool (equG c1 c2 c3))), []))
  | _, _ => .fail
theorem s32_at : CallAt Tryd.prog 32 s32 := by
  refine CallAt.norm (CallAt.weakE (g := fun n => evCall F S10 n 32) (fun n => evCall_atH mixed kinds hds S10 S10_ok n 32) fun xs B r' B' hr => ?_) _ _
  split at hr
  · rename_i c1 c2 c3
    obtain ⟨hp, hr⟩ := (M.run_chk _ _ _).1 hr
    simp only [M.run, Option.some.injEq, Prod.mk.injEq] at hr
    obtain ⟨rfl, rfl⟩ := hr
    obtain ⟨m, hm⟩ := equ32 c1 c2 c3 hp
    obtain ⟨r, B1, h1, h2, h3, h4⟩ := p32_ok m c1 c2 c3 _ hm
    exact ⟨m + 25, r, B1, h1, by simp, h2, h3, h4⟩
  · simp [M.run] at hr
noncomputable def S11 : FuncId → Option (List AV → Boxes → M (AV × Boxes)) := fun f => if f = 32 then some s32 else S10 f
set_option maxHeartbeats 20000000 in
theorem S11_ok : ∀ f s, S11 f = some s → CallAt Tryd.prog f s := by
  intro f s h
  unfold S11 at h
  split at h
  · rename_i e; subst e; cases h; exact s32_at
  · exact S10_ok f s h

end Go.Proofs.YtghkbjflejgieaaDoor.Dec
